import Derived.Test.YtccblhllmplmaaaAbMem5
namespace Go.Ab
open Go

section
variable {P : Program} {σ : Loc} {B : Nat} {h : Nat → Option Blk} {H H' : Heap} {w : World}

theorem offPtr_ok {o : Nat} {x x' v : Value} (hx : VR σ x x') (hr : offPtr o x = some v) : ∃ a, x' = .pointer (some a) ∧ VR σ v (.pointer (some (a.add o))) := by
  unfold offPtr at hr
  cases x <;> simp only at hr <;> first | (cases hr; done) | skip
  rename_i a
  cases a with
  | none => cases hr
  | some a =>
    obtain ⟨id, off, sp⟩ := a
    obtain ⟨rfl, c, q, s, rfl, hσ⟩ := hx.ptr_inv
    cases hr
    refine ⟨_, rfl, ?_⟩
    rw [addr_add, Nat.add_assoc]
    exact .ptr id (off + o) c q s hσ .nil

theorem fieldAddr_ok {s : TypeId} {f : Nat} {x x' v : Value} (hx : VR σ x x') (hr : (fieldAddrC P s f).f x = some v) (w : World) : ∃ v', (Instr.fieldAt s x' f).run P w = .ok v' w ∧ VR σ v v' := by
  unfold fieldAddrC at hr
  split at hr
  case h_2 => cases hr
  case h_1 fields hu =>
  split at hr
  case h_2 => cases hr
  case h_1 fl hf =>
  split at hr
  case h_1 => cases hr
  case h_3 => cases hr
  case h_2 n hn0 hsz =>
  have hn : n ≠ 0 := fun e => hn0 e
  obtain ⟨a, rfl, hv⟩ := offPtr_ok hx hr
  refine ⟨_, ?_, hv⟩
  have hf' : fields[f]? = some fl := by simpa using hf
  simp only [Instr.fieldAt, Sem.run_bind, run_underlying hu, Result.andThen_ok, hf', Instr.sureAddr, Sem.run_pure, fieldPlace, sizeB_run hsz]
  rw [Sem.run_ite, if_neg hn]
  rfl

theorem idx_int {n : Nat} {x i v : Value} {size : Nat} (hr : idxPtr n size x i = some v) : ∃ k j, i = .int k j ∧ 0 ≤ j ∧ j.toNat < n ∧ offPtr (j.toNat * size) x = some v := by
  unfold idxPtr at hr
  cases i <;> simp only at hr <;> first | (cases hr; done) | skip
  rename_i k j
  rw [leB_eq, blt_eq] at hr
  split at hr
  · rename_i h0
    split at hr
    · rename_i h1; exact ⟨k, j, rfl, of_decide_eq_true h0, of_decide_eq_true h1, hr⟩
    · cases hr
  · cases hr

theorem indexAddr_ok {t : TypeId} {x x' i i' v : Value} (hx : VR σ x x') (hi : VR σ i i') (hr : (indexAddrC P t).f x i = some v) (w : World) : ∃ v', (Instr.indexAt t x' i').run P w = .ok v' w ∧ VR σ v v' := by
  unfold indexAddrC at hr
  cases hu : P.underlying t with
  | none => rw [hu] at hr; cases hr
  | some td =>
    rw [hu] at hr
    cases td <;> simp only at hr <;> first | (cases hr; done) | skip
    case array n e =>
      cases hsz : sizeB P e with
      | none => rw [hsz] at hr; cases hr
      | some size =>
        rw [hsz] at hr
        obtain ⟨k, j, rfl, h0, h1, h2⟩ := idx_int hr
        rw [hi.int_inv]
        obtain ⟨a, rfl, hv⟩ := offPtr_ok hx h2
        refine ⟨_, ?_, hv⟩
        simp only [Instr.indexAt, asIntOf, Sem.run_bind, Sem.run_pure, Result.andThen_ok, run_underlying hu, Instr.sureAddr]
        rw [Sem.run_ite, if_pos ⟨h0, by omega⟩]
        simp only [Sem.run_bind, sizeB_run hsz, Result.andThen_ok, Sem.run_pure]
    case slice e =>
      cases hsz : sizeB P e with
      | none => rw [hsz] at hr; cases hr
      | some size =>
        rw [hsz] at hr
        simp only [idxSl] at hr
        cases x <;> simp only at hr <;> first | (cases hr; done) | skip
        rename_i a n c
        obtain ⟨k, j, rfl, h0, h1, h2⟩ := idx_int hr
        rw [hi.int_inv]
        have fin : ∀ (a' : Addr) (len' cap' : Nat), x' = .slice (some a') len' cap' → len' = n → VR σ (.pointer a) (.pointer (some a')) → ∃ v', (Instr.indexAt t x' (.int k j)).run P w = .ok v' w ∧ VR σ v v' := by
          intro a' len' cap' e1 e2 hp
          subst e1; subst e2
          obtain ⟨a2, e3, hv⟩ := offPtr_ok hp h2
          cases e3
          refine ⟨_, ?_, hv⟩
          simp only [Instr.indexAt, asIntOf, Sem.run_bind, Sem.run_pure, Result.andThen_ok, run_underlying hu, Instr.sureAddr]
          rw [Sem.run_ite, if_pos ⟨h0, by omega⟩]
          simp only [Sem.run_bind, sizeB_run hsz, Result.andThen_ok, Sem.run_pure]
        cases hx
        case slNil _ => exact absurd h1 (by omega)
        case slFull id off size' cc o s a hσ hp' hadr _ =>
          rcases hadr with rfl | ⟨rfl, _⟩
          · exact absurd h1 (by omega)
          · exact fin _ _ _ rfl rfl (.ptr _ _ _ _ _ hσ .nil)
        case slOpen id off size' cap cc o s a hσ hp' hle hadr _ =>
          rcases hadr with ⟨rfl, _⟩ | ⟨rfl, _⟩
          · exact fin _ _ _ rfl rfl (.ptr _ _ _ _ _ hσ .nil)
          · exact absurd h1 (by omega)

theorem partC_ok {t : TypeId} {cs : List Value} {cs' : Array Value} {off : Nat} {v : Value} (hc : VRs σ cs cs'.toList) (hr : (partC P t).f cs off = some v) (w : World) :
    ∃ v', (part t cs' off).run P w = .ok v' w ∧ VR σ v v' := by
  refine partA_ok hc ?_ w
  unfold partC at hr
  unfold partA
  cases hq : isAggB P t with
  | none => rw [hq] at hr; cases hr
  | some b =>
    cases hs : sizeB P t with
    | none => cases b <;> simp [hq, hs] at hr
    | some n => cases b <;> simpa [hq, hs] using hr

theorem index_ok {t : TypeId} {x x' i i' v : Value} (hx : VR σ x x') (hi : VR σ i i') (hr : (indexC P t).f x i = some v) (w : World) : ∃ v', (Instr.index t x' i').run P w = .ok v' w ∧ VR σ v v' := by
  unfold indexC at hr
  cases hu : P.underlying t with
  | none => rw [hu] at hr; cases hr
  | some td =>
    rw [hu] at hr
    cases td <;> simp only at hr <;> first | (cases hr; done) | skip
    case array n e =>
      cases hsz : sizeB P e with
      | none => rw [hsz] at hr; cases hr
      | some size =>
        rw [hsz] at hr
        simp only [idxAgg] at hr
        cases x <;> simp only at hr <;> first | (cases hr; done) | skip
        rename_i cs
        cases i <;> simp only at hr <;> first | (cases hr; done) | skip
        rename_i k j
        rw [hi.int_inv]
        obtain ⟨cs', rfl, hcs⟩ := hx.agg_inv
        rw [leB_eq, blt_eq] at hr
        split at hr
        case h_2 => cases hr
        case h_1 h0 =>
        split at hr
        case h_2 => cases hr
        case h_1 h1 =>
        have h0 := of_decide_eq_true h0
        have h1 := of_decide_eq_true h1
        obtain ⟨v', p1, p2⟩ := partC_ok hcs hr w
        refine ⟨v', ?_, p2⟩
        simp only [Instr.index, asIntOf, Sem.run_bind, Sem.run_pure, Result.andThen_ok, run_underlying hu]
        rw [Sem.run_ite, if_pos ⟨h0, by omega⟩]
        simp only [Sem.run_bind, sizeB_run hsz, Result.andThen_ok, p1]
    case string =>
      simp only [idxStr] at hr
      cases x <;> simp only at hr <;> first | (cases hr; done) | skip
      rename_i s
      cases i <;> simp only at hr <;> first | (cases hr; done) | skip
      rename_i k j
      rw [hx.string_inv, hi.int_inv]
      rw [leB_eq] at hr
      split at hr
      case h_2 => cases hr
      case h_1 h0 =>
      have h0 := of_decide_eq_true h0
      rw [atN_eq] at hr
      cases hb : s.data.toList[j.toNat]? with
      | none => rw [hb] at hr; cases hr
      | some b =>
        rw [hb] at hr
        cases hr
        refine ⟨.int .u8 b.toNat, ?_, .int⟩
        have : s[j.toNat]? = some b := by
          have hb' : s.data[j.toNat]? = some b := by simpa using hb
          obtain ⟨hlt, hbe⟩ := Array.getElem?_eq_some_iff.1 hb'
          rw [getElem?_pos s j.toNat hlt]
          exact congrArg some hbe
        simp only [Instr.index, asIntOf, Sem.run_bind, Sem.run_pure, Result.andThen_ok, run_underlying hu, h0, if_true, this]

theorem field_ok {t : TypeId} {f : Nat} {x x' v : Value} (hx : VR σ x x') (hr : (fieldC P t f).f x = some v) (w : World) : ∃ v', (Instr.field t x' f).run P w = .ok v' w ∧ VR σ v v' := by
  unfold fieldC at hr
  split at hr
  case h_2 => cases hr
  case h_1 fields hu =>
  split at hr
  case h_2 => cases hr
  case h_1 fl hf =>
  simp only at hr
  cases x <;> simp only at hr <;> first | (cases hr; done) | skip
  rename_i cs
  obtain ⟨cs', rfl, hcs⟩ := hx.agg_inv
  obtain ⟨v', p1, p2⟩ := partC_ok hcs hr w
  refine ⟨v', ?_, p2⟩
  have hf' : fields[f]? = some fl := by simpa using hf
  simp only [Instr.field, Sem.run_bind, run_underlying hu, Result.andThen_ok, hf', asAgg, Sem.run_pure, p1]

theorem typeAssert_ok {t a : TypeId} {ok : Bool} {x x' v : Value} (hx : VR σ x x') (hr : (typeAssertC P a ok).f x = some v) (w : World) : ∃ v', (Instr.typeAssert x' t a ok).run P w = .ok v' w ∧ VR σ v v' := by
  unfold typeAssertC at hr
  have pairVR : ∀ (u u' : Value) (b : Bool), VR σ u u' → VR σ (.tuple #[u, .bool b]) (.tuple #[u', .bool b]) := fun u u' b hu => .tuple _ _ (hu.cons (.bool b .nil)) .nil
  cases hu : P.underlying a with
  | none => rw [hu] at hr; cases hr
  | some td =>
    have hni : (match td with | .interface _ => true | _ => false) = false := by
      cases td <;> first | rfl | (rw [hu] at hr; cases hr)
    have hr2 : (if ok then (⟨assertOk a (zeroB P a)⟩ : UF) else ⟨assertPlain a⟩).f x = some v := by
      rw [hu] at hr
      cases td <;> first | exact hr | cases hr
    clear hr
    cases ok with
    | true =>
      simp only [if_true, assertOk] at hr2
      cases hx <;> simp only at hr2 <;> first | (cases hr2; done) | skip
      case nilIface _ =>
        cases hz : zeroB P a with
        | none => rw [hz] at hr2; cases hr2
        | some z =>
          rw [hz] at hr2
          cases hr2
          obtain ⟨z1, z2⟩ := zeroB_run hz w
          refine ⟨.tuple #[z, .bool false], ?_, pairVR _ _ _ (constOk_VR z2)⟩
          cases td <;> first | (cases hni; done) | (simp [Instr.typeAssert, run_underlying hu, z1])
      case iface u vv vv' h1 _ =>
        split at hr2
        · rename_i he
          cases hr2
          have he := Nat.eq_of_beq_eq_true he
          subst he
          refine ⟨.tuple #[vv', .bool true], ?_, pairVR _ _ _ h1⟩
          cases td <;> first | (cases hni; done) | (simp [Instr.typeAssert, run_underlying hu])
        · rename_i he
          have he : u ≠ a := fun e => by subst e; simp at he
          cases hz : zeroB P a with
          | none => rw [hz] at hr2; cases hr2
          | some z =>
            rw [hz] at hr2
            cases hr2
            obtain ⟨z1, z2⟩ := zeroB_run hz w
            refine ⟨.tuple #[z, .bool false], ?_, pairVR _ _ _ (constOk_VR z2)⟩
            cases td <;> first | (cases hni; done) | (simp [Instr.typeAssert, run_underlying hu, z1, he])
    | false =>
      simp only [Bool.false_eq_true, if_false, assertPlain] at hr2
      cases hx <;> simp only at hr2 <;> first | (cases hr2; done) | skip
      case iface u vv vv' h1 _ =>
        split at hr2
        · rename_i he
          cases hr2
          have he := Nat.eq_of_beq_eq_true he
          subst he
          refine ⟨vv', ?_, h1⟩
          cases td <;> first | (cases hni; done) | (simp [Instr.typeAssert, run_underlying hu])
        · cases hr2

/-! conversions -/
theorem bytes_same : ∀ (l l' : List Value) (m : List UInt8), VRs σ l l' → bytesOfL l = some m → l' = l
  | [], l', m, hv, _ => by rw [hv.nil_inv]
  | y :: r, l', m, hv, hm => by
    obtain ⟨y', r', rfl, hy, hr'⟩ := hv.uncons
    unfold bytesOfL at hm
    cases y <;> simp only at hm <;> first | (cases hm; done) | skip
    rename_i k n
    cases k <;> simp only at hm <;> first | (cases hm; done) | skip
    cases hm2 : bytesOfL r with
    | none => rw [hm2] at hm; cases hm
    | some m2 => rw [hy.int_inv, bytes_same r r' m2 hr' hm2]

theorem bytes_loop : ∀ (l : List Value) (m : List UInt8) (acc : ByteArray), bytesOfL l = some m → (forIn (m := Sem) l acc (fun c r => (match c with
      | .int .u8 n => (pure (ForInStep.yield (r.push (UInt8.ofNat n.toNat))) : Sem (ForInStep ByteArray))
      | _ => do stuck "bytesToString: byte expected"; pure (ForInStep.yield r)))).run P w = .ok ⟨(acc.data.toList ++ m).toArray⟩ w
  | [], m, acc, hm => by cases hm; simp
  | y :: r, m, acc, hm => by
    unfold bytesOfL at hm
    cases y <;> simp only at hm <;> first | (cases hm; done) | skip
    rename_i k n
    cases k <;> simp only at hm <;> first | (cases hm; done) | skip
    cases hm2 : bytesOfL r with
    | none => rw [hm2] at hm; cases hm
    | some m2 =>
      rw [hm2] at hm
      simp at hm
      subst hm
      simp only [List.forIn_cons, Sem.run_bind, Sem.run_pure, Result.andThen_ok]
      have ih := bytes_loop r m2 (acc.push (UInt8.ofNat n.toNat)) hm2
      rw [ih]
      have e : (acc.push (UInt8.ofNat n.toNat)).data.toList = acc.data.toList ++ [UInt8.ofNat n.toNat] := by
        show (acc.data.push _).toList = _
        simp
      rw [e]
      simp

theorem freeze_push (w : World) (arr : Array Value) (t : TypeId) : World.freeze { w with heap := w.heap.push (.cells arr t (0, 0)) } { block := w.heap.size, off := arr.size } 1 =
    { w with heap := w.heap.push (.cells arr t (arr.size, arr.size + 1)) } := by
  unfold World.freeze
  rw [if_neg (by omega)]
  congr 1
  apply Array.ext_getElem?
  intro i
  simp only [Array.getElem?_modify, Array.getElem?_push]
  by_cases hi : i = w.heap.size
  · subst hi; simp
  · simp [hi, Ne.symm hi]

theorem conv_ok {src dst : TypeId} {x x' v : Value} (hs : SimF σ B h w) (hB : B ≤ w.heap.size) (hid : ∀ i, H.next ≤ i → i < H'.next → σ i = none) (hax : (∃ e, P.underlying src = some (.slice e)) → AgV h H x) (hx : VR σ x x') (hr : (convC P src dst).f x H = some (v, H')) :
    Does P B (convert src dst x') w σ h H v H' := by
  unfold convC at hr
  cases hd : P.underlying dst with
  | none => rw [hd] at hr; cases hr
  | some dd =>
    rw [hd] at hr
    cases dd <;> simp only at hr <;> first | (cases hr; done) | skip
    case int k =>
      split at hr
      case h_2 => cases hr
      case h_1 ksrc hsd =>
      simp only at hr
      cases x <;> simp only at hr <;> first | (cases hr; done) | skip
      rename_i k2 n
      cases hr
      rw [hx.int_inv]
      refine Does.pure hs ⟨.int k (wrapA k n), ?_, .int⟩
      rw [wrapA_eq]
      simp only [convert, Sem.run_bind, run_underlying hsd, run_underlying hd, Result.andThen_ok]
      rfl
    case string =>
      cases hsd : P.underlying src with
      | none => rw [hsd] at hr; cases hr
      | some sd =>
        rw [hsd] at hr
        cases sd <;> simp only at hr <;> first | (cases hr; done) | skip
        case string =>
          cases x <;> simp only at hr <;> first | (cases hr; done) | skip
          cases hr
          rw [hx.string_inv]
          refine Does.pure hs ⟨_, ?_, .string⟩
          simp only [convert, Sem.run_bind, run_underlying hsd, run_underlying hd, Result.andThen_ok, Sem.run_pure]
        case slice e =>
          split at hr
          case isFalse => cases hr
          case isTrue hbt =>
          have hu8 : P.underlying e = some (.int .u8) := by
            unfold isByteT at hbt
            split at hbt
            · assumption
            · cases hbt
          simp only [bytesToStr] at hr
          have step : ∀ (a : Addr) (len cap : Nat) (l : List Value) (m : List UInt8), x' = .slice (some a) len cap → (loadCells a len).run P w = .ok l.toArray w → bytesOfL l = some m →
              (convert src dst x').run P w = .ok (.string ⟨m.toArray⟩) w := by
            intro a len cap l m e1 e2 e3
            subst e1
            have k0 := bytes_loop (P := P) (w := w) l m ByteArray.empty e3
            simp only [convert, Sem.run_bind, run_underlying hsd, run_underlying hd, Result.andThen_ok, run_underlying hu8, Conv.bytesToString, e2]
            rw [← Array.forIn_toList]
            exact congrArg (fun r : Result ByteArray => r.andThen fun a w' => Sem.run P (pure (Value.string a)) w') k0
          cases hx <;> simp only at hr <;> first | (cases hr; done) | skip
          case slNil _ =>
            cases hr
            refine Does.pure hs ⟨.string ⟨#[]⟩, ?_, .string⟩
            simp only [convert, Sem.run_bind, run_underlying hsd, run_underlying hd, Result.andThen_ok, run_underlying hu8, Conv.bytesToString, Sem.run_pure]
            rfl
          case slFull id off len size' c o s a hσ hp' hadr _ =>
            split at hr
            case isTrue h0 =>
              cases hr
              have h0 := Nat.eq_of_beq_eq_true h0
              subst h0
              exact Does.pure hs ⟨_, step a 0 0 [] [] rfl (by simp [loadCells, loadCellsFrom]) rfl, .string⟩
            case isFalse h0 =>
              have h0 : len ≠ 0 := fun e => by subst e; simp at h0
              obtain ⟨rfl, _⟩ := hadr.resolve_left h0
              split at hr
              case h_2 => cases hr
              case h_1 l hl =>
              split at hr
              case h_2 => cases hr
              case h_1 m hm =>
              cases hr
              obtain ⟨l', q1, q2, q3⟩ := read_ok (P := P) hs (hax ⟨_, hsd⟩ id rfl) hl hσ
              rw [bytes_same _ _ _ q2 hm] at q1
              exact Does.pure hs ⟨_, step _ _ _ l m rfl q1 hm, .string⟩
          case slOpen id off len size' cap c o s a hσ hp' hle hadr _ =>
            split at hr
            case isTrue h0 =>
              cases hr
              have h0 := Nat.eq_of_beq_eq_true h0
              subst h0
              exact Does.pure hs ⟨_, step a 0 cap [] [] rfl (by simp [loadCells, loadCellsFrom]) rfl, .string⟩
            case isFalse h0 =>
              have h0 : len ≠ 0 := fun e => by subst e; simp at h0
              obtain rfl : a = ⟨c, o + off, none⟩ := by
                rcases hadr with ⟨hh, _⟩ | ⟨hh, _⟩
                · exact hh
                · omega
              split at hr
              case h_2 => cases hr
              case h_1 l hl =>
              split at hr
              case h_2 => cases hr
              case h_1 m hm =>
              cases hr
              obtain ⟨l', q1, q2, q3⟩ := read_ok (P := P) hs (hax ⟨_, hsd⟩ id rfl) hl hσ
              rw [bytes_same _ _ _ q2 hm] at q1
              exact Does.pure hs ⟨_, step _ _ _ l m rfl q1 hm, .string⟩
    case slice e =>
      cases hsd : P.underlying src with
      | none => rw [hsd] at hr; cases hr
      | some sd =>
        rw [hsd] at hr
        cases sd <;> simp only at hr <;> first | (cases hr; done) | skip
        case string =>
          split at hr
          case isFalse => cases hr
          case isTrue hbt =>
          have hu8 : P.underlying e = some (.int .u8) := by
            unfold isByteT at hbt
            split at hbt
            · assumption
            · cases hbt
          simp only [strToBytes] at hr
          cases x <;> simp only at hr <;> first | (cases hr; done) | skip
          rename_i s
          rw [hx.string_inv]
          let cap := (Question.appendCap s.size 0 e).cut (w.tape w.drawn (.appendCap s.size 0 e))
          let elems : List Value := s.data.toList.map byteVal
          let rest : List Value := List.replicate (cap - s.size) (.int .u8 0)
          have hcap : s.size ≤ cap := by show s.size ≤ s.size + _; omega
          have hlen : elems.length + rest.length = cap := by
            have : elems.length = s.size := by simp [elems]
            simp only [rest, List.length_replicate]; omega
          obtain ⟨τ, id, rfl, hτ, hg⟩ := newSlice_ok (cs' := elems) (rest := rest) hs hB hid (VRs.map_int .u8 (fun b : UInt8 => ((b.toNat : Nat) : Int)) s.data.toList) e (cap, cap + 1) ⟨by simp, by intro i hi; rw [hlen] at hi; simp; omega⟩ (w.drawn + 1) hr
          refine ⟨.slice (some ⟨w.heap.size, 0, none⟩) s.size cap, _, τ, ?_, ?_, hg⟩
          · have e1 : (s.data.map fun b => Value.int .u8 b.toNat) ++ Array.replicate (cap - s.size) (.int .u8 0) = (elems ++ rest).toArray := by
              apply Array.ext'
              simp [elems, rest, byteVal]
            have hsz : (elems ++ rest).toArray.size = cap := by simp; simpa using hlen
            have hq : (Question.appendCap s.size 0 e).forced = false := rfl
            simp only [convert, Sem.run_bind, run_underlying hsd, run_underlying hd, Result.andThen_ok, run_underlying hu8, Conv.stringToBytes, run_choose, hq, Bool.false_eq_true, if_false, Sem.run_pure, newRow, run_newObj]
            have e1' : (s.data.map fun b => Value.int .u8 b.toNat) ++ Array.replicate ((Question.appendCap s.size 0 e).cut (w.tape w.drawn (.appendCap s.size 0 e)) - s.size) (.int .u8 0) = (elems ++ rest).toArray := e1
            rw [e1']
            have hsh : ∀ W : World, W.heap = w.heap.push (.cells (elems ++ rest).toArray e (0, 0)) → W.shape? w.heap.size = some (e, cap) := by
              intro W hW
              unfold World.shape?
              rw [hW]
              simp [← hsz]
            simp only [markStringish, Sem.run_bind, run_shape, Result.andThen_ok]
            rw [hsh _ rfl]
            simp only [run_freeze, Result.andThen_ok]
            have hf := freeze_push { w with drawn := w.drawn + 1 } (elems ++ rest).toArray e
            rw [hsz] at hf
            simp only at hf
            rw [hf]
          · have e2 : lenN s.data.toList = s.size := by rw [lenN_eq, Array.length_toList]; rfl
            rw [e2]
            rw [hlen] at hτ
            exact slice_new_open (size := 1) hτ (by omega) hcap (by omega)
        case slice e' =>
          split at hr
          case isFalse => cases hr
          case isTrue hbt =>
          rw [Bool.and_eq_true] at hbt
          obtain ⟨hbt, hsame⟩ := hbt
          have hsame : src = dst := Nat.eq_of_beq_eq_true hsame
          have hu8 : P.underlying e = some (.int .u8) := by
            unfold isByteT at hbt
            split at hbt
            · assumption
            · cases hbt
          simp only [keepSl] at hr
          split at hr
          case h_2 => cases hr
          case h_1 ad len cc =>
          split at hr
          case h_1 => cases hr
          case h_2 id off sp =>
          split at hr
          case h_1 => cases hr
          case h_2 =>
          split at hr
          case h_1 => cases hr
          case h_2 hl0 =>
          split at hr
          case h_2 => cases hr
          case h_1 b hg =>
          split at hr
          case h_2 => cases hr
          case h_1 hmw =>
          cases hr
          have hw : b.wr = true := by simp only [Heap.mayWrite, Bool.and_eq_true] at hmw; exact hmw.1
          have hlen : len ≠ 0 := fun e => by subst e; simp at hl0
          have hx2 := hx
          have hkey : ∃ c o s cap, x' = .slice (some ⟨c, o + off, none⟩) len cap ∧ σ id = some (c, o, s) := by
            cases hx
            case slFull =>
              rename_i hp' hσ hadr _
              obtain ⟨rfl, _⟩ := hadr.resolve_left hlen
              exact ⟨_, _, _, _, rfl, hσ⟩
            case slOpen =>
              rename_i hp' hσ hle hadr _
              rcases hadr with ⟨rfl, _⟩ | ⟨h0, _⟩
              · exact ⟨_, _, _, _, rfl, hσ⟩
              · exact absurd h0 hlen
          obtain ⟨c, o, s, cap, rfl, hσ⟩ := hkey
          have hb : h id = some b := hax ⟨_, hsd⟩ id rfl b hg
          obtain ⟨c', o', s', arr, ty, fr, e1, e2, _⟩ := hs.blk id b hb
          rw [hσ] at e1; cases e1
          have hmg := mark_goes (n := H.next) hs id b hb hw c o s arr ty fr hσ e2
          refine ⟨_, w.freeze { block := c, off := arr.size } 1, σ, ?_, hx2, ?_⟩
          · have hshape : w.shape? c = some (ty, arr.size) := by unfold World.shape?; rw [e2]
            subst hsame
            rw [hd] at hsd; cases hsd
            simp only [convert, Sem.run_bind, run_underlying hd, Result.andThen_ok, run_underlying hu8, beq_self_eq_true, markStringish, run_shape, hshape, run_freeze, Sem.run_pure]
          · rw [upd_refl]; exact hmg
end
end Go.Ab
