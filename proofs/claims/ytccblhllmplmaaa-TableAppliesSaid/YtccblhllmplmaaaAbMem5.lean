import Derived.Test.YtccblhllmplmaaaAbMem4
namespace Go.Ab
open Go

section
variable {P : Program} {σ : Loc} {B : Nat} {h : Nat → Option Blk} {H H' : Heap} {w : World}

/-! slices -/
theorem bound_run {v v' : Value} {y n : Nat} {code : BoundsCode} (hv : VR σ v v') (hr : ∃ k m, v = .int k m ∧ 0 ≤ m ∧ m.toNat ≤ y ∧ n = m.toNat) (w : World) : (Instr.sliceBound v' y code).run P w = .ok n w := by
  obtain ⟨k, m, rfl, h0, h1, rfl⟩ := hr
  rw [hv.int_inv]
  simp only [Instr.sliceBound, asIntOf, Sem.run_bind, Sem.run_pure, Result.andThen_ok]
  rw [Sem.run_ite, if_pos ⟨h0, by omega⟩]
  rfl
theorem boundHi_int {len n : Nat} {v : Value} (hr : boundHi len (some v) = some n) : ∃ k m, v = .int k m ∧ 0 ≤ m ∧ m.toNat ≤ len ∧ n = m.toNat := by
  unfold boundHi at hr
  simp only at hr
  cases v <;> simp only at hr <;> try cases hr
  rename_i k m
  rw [leB_eq, ble_eq] at hr
  split at hr
  · rename_i h0
    split at hr
    · rename_i h1
      cases hr
      exact ⟨k, m, rfl, of_decide_eq_true h0, of_decide_eq_true h1, rfl⟩
    · cases hr
  · cases hr
theorem boundLo_int {len n : Nat} {v : Value} (hr : boundLo len (some v) = some n) : ∃ k m, v = .int k m ∧ 0 ≤ m ∧ m.toNat ≤ len ∧ n = m.toNat := by
  have : boundHi len (some v) = some n := hr
  exact boundHi_int this

inductive VO (σ : Loc) : Option Value → Option Value → Prop
  | none : VO σ none none
  | some {v v' : Value} : VR σ v v' → VO σ (some v) (some v')

/-- the three bounds of a slice expression -/
theorem bounds_ok {isSlice : Bool} {len cap l hh : Nat} {full : Bool} {lo lo' hi hi' mx mx' : Option Value} (hlo : VO σ lo lo') (hhi : VO σ hi hi') (hmx : VO σ mx mx') (hle : len ≤ cap)
    (h1 : boundHi len hi = some hh) (h2 : boundLo hh lo = some l) (h3 : maxOk hh hi mx = some full) (w : World) :
    ∃ m, (Instr.sliceBounds isSlice len cap lo' hi' mx').run P w = .ok (l, hh, m) w ∧ l ≤ hh ∧ hh ≤ len ∧ (m = if full then hh else cap) := by
  have hlow : ∀ code, (match lo' with | some v => Instr.sliceBound v hh code | none => (pure 0 : Sem Nat)).run P w = .ok l w ∧ l ≤ hh := by
    intro code
    cases hlo with
    | none => simp [boundLo] at h2; subst h2; exact ⟨rfl, Nat.zero_le _⟩
    | some hv => have := boundLo_int h2; obtain ⟨k, m, e, q1, q2, q3⟩ := this; exact ⟨bound_run hv ⟨k, m, e, q1, q2, q3⟩ w, by omega⟩
  have hhle : hh ≤ len := by
    cases hi with
    | none => simp [boundHi] at h1; omega
    | some v => obtain ⟨k, m, e, q1, q2, q3⟩ := boundHi_int h1; omega
  cases hmx with
  | none =>
    simp [maxOk] at h3
    subst h3
    refine ⟨cap, ?_, (hlow .sliceB).2, hhle, by simp⟩
    cases hhi with
    | none =>
      simp [boundHi] at h1
      subst h1
      simp only [Instr.sliceBounds, Sem.run_bind, Sem.run_pure, Result.andThen_ok, Option.isSome_none, Bool.false_eq_true, if_false]
      have := (hlow .sliceB).1
      cases hlo <;> simp only at this ⊢ <;> (try rw [this]) <;> simp_all
    | some hv =>
      have hb := boundHi_int h1
      obtain ⟨k, m, e, q1, q2, q3⟩ := hb
      have hr := bound_run (P := P) (y := cap) (n := hh) (code := if isSlice then .sliceAcap else .sliceAlen) hv ⟨k, m, e, q1, by omega, q3⟩ w
      simp only [Instr.sliceBounds, Sem.run_bind, Sem.run_pure, Result.andThen_ok, Option.isSome_none, Bool.false_eq_true, if_false, hr]
      have := (hlow .sliceB).1
      cases hlo <;> simp only at this ⊢ <;> (try rw [this]) <;> simp_all
  | some hmv =>
    rename_i mv mv'
    unfold maxOk at h3
    simp only at h3
    cases mv <;> simp only at h3 <;> try cases h3
    rename_i mk mm
    cases hhi with
    | none => cases h3
    | some hv =>
      simp only at h3
      split at h3
      case h_2 => cases h3
      case h_1 hm0 =>
      split at h3
      case h_2 => cases h3
      case h_1 hm1 =>
      cases h3
      rw [leB_eq] at hm0
      have hm0 := of_decide_eq_true hm0
      have hm1 := Nat.eq_of_beq_eq_true hm1
      obtain ⟨k, m, e, q1, q2, q3⟩ := boundHi_int h1
      refine ⟨hh, ?_, (hlow .slice3C).2, hhle, by simp⟩
      have r1 := bound_run (P := P) (y := cap) (n := hh) (code := if isSlice then .slice3Acap else .slice3Alen) hmv ⟨mk, mm, rfl, hm0, by omega, hm1.symm⟩ w
      have r2 := bound_run (P := P) (y := hh) (n := hh) (code := .slice3B) hv ⟨k, m, e, q1, by omega, q3⟩ w
      simp only [Instr.sliceBounds, Sem.run_bind, r1, r2, Result.andThen_ok, Option.isSome_some, if_true]
      have := (hlow .slice3C).1
      cases hlo <;> simp only at this ⊢ <;> (try rw [this]) <;> simp_all

theorem reslice_ok {size l hh m cap : Nat} {full : Bool} {a : Option Addr} {a' : Option Addr} {v : Value} (hp : 0 < size) (hr : reslice size a l hh full = some v) (hl : l ≤ hh)
    (hm : m = if full then hh else cap) (hcap : hh ≤ cap)
    (ha : match a with
      | none => a' = none ∧ hh = 0 ∧ cap = 0
      | some a => ∃ c o s, σ a.block = some (c, o, s) ∧ a'.isSome = true ∧ ((hh = 0 ∧ cap = 0) ∨ (a' = some ⟨c, o + a.off, none⟩ ∧ o + a.off + cap * size ≤ s))) :
    VR σ v (.slice (if m = l then a' else a'.map (·.add (l * size))) (hh - l) (m - l)) := by
  cases a with
  | none =>
    obtain ⟨rfl, rfl, rfl⟩ := ha
    cases hr
    have : m = 0 := by rw [hm]; cases full <;> rfl
    subst this
    have : l = 0 := by omega
    subst this
    exact .slNil .nil
  | some a =>
    obtain ⟨id, off, sp⟩ := a
    obtain ⟨c, o, s, hσ, hsome, hadr⟩ := ha
    obtain ⟨b', rfl⟩ := Option.isSome_iff_exists.1 hsome
    cases sp with
    | some _ => cases hr
    | none =>
      cases hr
      have hσ : σ id = some (c, o, s) := hσ
      have hsl : ∀ x, (if m = l then (some b' : Option Addr) else (some b').map (·.add x)) = some (if m = l then b' else b'.add x) := fun x => by split <;> rfl
      rw [hsl]
      cases full with
      | true =>
        simp only [if_true] at hm
        subst hm
        refine .slFull id (off + l * size) (m - l) size c o s _ hσ hp ?_ .nil
        by_cases hml : m = l
        · left; omega
        · right
          rcases hadr with ⟨h1, h2⟩ | ⟨h1, h2⟩
          · omega
          · rw [if_neg hml]
            cases h1
            refine ⟨by rw [addr_add, Nat.add_assoc], ?_⟩
            have e1 : l * size + (m - l) * size = m * size := by rw [← Nat.add_mul]; congr 1; omega
            have e2 := Nat.mul_le_mul_right size hcap
            simp only at h2 ⊢
            omega
      | false =>
        simp only [Bool.false_eq_true, if_false] at hm
        subst hm
        refine .slOpen id (off + l * size) (hh - l) size (m - l) c o s _ hσ hp (by omega) ?_ .nil
        by_cases hml : m = l
        · right; omega
        · left
          rcases hadr with ⟨h1, h2⟩ | ⟨h1, h2⟩
          · omega
          · rw [if_neg hml]
            cases h1
            refine ⟨by rw [addr_add, Nat.add_assoc], ?_⟩
            have e1 : l * size + (m - l) * size = m * size := by rw [← Nat.add_mul]; congr 1; omega
            simp only at h2 ⊢
            omega

theorem slice_ok {t : TypeId} {x x' v : Value} {lo lo' hi hi' mx mx' : Option Value} (hs : SimF σ B h w) (hax : (∃ n e, P.underlying t = some (.array n e)) → AgV h H x) (hx : VR σ x x') (hlo : VO σ lo lo') (hhi : VO σ hi hi') (hmx : VO σ mx mx')
    (hr : (sliceC P t).f x lo hi mx H = some v) : ∃ v', (Instr.sliceAt t x' lo' hi' mx').run P w = .ok v' w ∧ VR σ v v' := by
  unfold sliceC at hr
  cases hu : P.underlying t with
  | none => rw [hu] at hr; cases hr
  | some td =>
    rw [hu] at hr
    cases td <;> simp only at hr <;> first | (cases hr; done) | skip
    case string =>
      unfold sliceStr at hr
      cases x <;> simp only at hr <;> first | (cases hr; done) | skip
      rename_i s
      rw [hx.string_inv]
      cases mx with
      | some _ => cases hr
      | none =>
        cases hmx
        simp only at hr
        cases h1 : boundHi (lenN s.data.toList) hi with
        | none => rw [h1] at hr; cases hr
        | some hh =>
          rw [h1] at hr
          simp only at hr
          cases h2 : boundLo hh lo with
          | none => rw [h2] at hr; cases hr
          | some l =>
            rw [h2] at hr
            cases hr
            have hlen : lenN s.data.toList = s.size := by rw [lenN_eq, Array.length_toList]; rfl
            rw [hlen] at h1
            obtain ⟨m, b1, b2, b3, b4⟩ := bounds_ok (P := P) (isSlice := false) hlo hhi .none (Nat.le_refl s.size) h1 h2 (full := false) rfl w
            refine ⟨.string (s.extract l hh), ?_, ?_⟩
            · simp only [Instr.sliceAt, Instr.slice, Sem.run_bind, run_underlying hu, Result.andThen_ok, Option.isSome_none, Bool.false_eq_true, if_false, Sem.run_pure, b1]
            · have : (⟨(takeN (dropN s.data.toList l) (hh - l)).toArray⟩ : ByteArray) = s.extract l hh := by
                apply ByteArray.ext
                apply Array.ext'
                rw [takeN_eq, dropN_eq, ByteArray.data_extract, Array.toList_extract, List.extract_eq_take_drop]
              rw [this]
              exact .string
    case slice e =>
      cases hsz : sizeB P e with
      | none => rw [hsz] at hr; cases hr
      | some size =>
        rw [hsz] at hr
        simp only at hr
        split at hr
        case h_2 => cases hr
        case h_1 hp =>
        rw [blt_eq] at hp
        have hp := of_decide_eq_true hp
        simp only [sliceSl] at hr
        cases x <;> simp only at hr <;> first | (cases hr; done) | skip
        rename_i a len c
        split at hr
        case h_2 => cases hr
        case h_1 hh h1 =>
        split at hr
        case h_2 => cases hr
        case h_1 l h2 =>
        split at hr
        case h_2 => cases hr
        case h_1 full h3 =>
        have fin : ∀ (a' : Option Addr) (cap : Nat) (f2 : Bool), x' = .slice a' len cap → len ≤ cap → (full = true → f2 = true) → (f2 = true → full = false → hh = cap) → reslice size a l hh f2 = some v →
            (match a with
              | none => a' = none ∧ len = 0 ∧ cap = 0
              | some a => ∃ c o s, σ a.block = some (c, o, s) ∧ a'.isSome = true ∧ ((len = 0 ∧ cap = 0) ∨ (a' = some ⟨c, o + a.off, none⟩ ∧ o + a.off + cap * size ≤ s))) →
            ∃ v', (Instr.sliceAt t x' lo' hi' mx').run P w = .ok v' w ∧ VR σ v v' := by
          intro a' cap f2 ex hle hf1 hf2 hres hadr
          subst ex
          obtain ⟨m, b1, b2, b3, b4⟩ := bounds_ok (P := P) (isSlice := true) hlo hhi hmx hle h1 h2 h3 w
          refine ⟨_, ?_, reslice_ok (m := m) (cap := cap) (a' := a') hp hres b2 ?_ (by omega) ?_⟩
          · simp only [Instr.sliceAt, Instr.slice, Sem.run_bind, run_underlying hu, Result.andThen_ok, b1, sizeB_run hsz, Sem.run_pure]
          · rw [b4]
            cases full with
            | true => simp [hf1 rfl]
            | false =>
              cases f2 with
              | false => rfl
              | true => simp [hf2 rfl rfl]
          · cases a with
            | none => obtain ⟨e1, e2, e3⟩ := hadr; exact ⟨e1, by omega, e3⟩
            | some a =>
              obtain ⟨c0, o0, s0, e1, e2, e3⟩ := hadr
              refine ⟨c0, o0, s0, e1, e2, ?_⟩
              rcases e3 with ⟨g1, g2⟩ | g
              · exact .inl ⟨by omega, g2⟩
              · exact .inr g
        cases hx
        case slNil _ =>
          have e0 : Nat.beq 0 (2 * size + 1) = false := by
            cases hq : Nat.beq 0 (2 * size + 1) with
            | false => rfl
            | true => have := Nat.eq_of_beq_eq_true hq; omega
          rw [e0] at hr
          simp only [Bool.or_true, Nat.beq_refl] at hr
          exact fin none 0 full rfl (Nat.le_refl _) id (fun a b => by rw [a] at b; cases b) hr ⟨rfl, rfl, rfl⟩
        case slFull id off size' cc o s a hσ hp' hadr _ =>
          split at hr
          case h_1 hc =>
            obtain rfl : size' = size := by have := Nat.eq_of_beq_eq_true hc; omega
            refine fin (some a) len (full || Nat.beq hh len) rfl (Nat.le_refl _) (fun e => by simp [e]) (fun e1 e2 => ?_) hr ⟨cc, o, s, hσ, rfl, ?_⟩
            · rw [e2, Bool.false_or] at e1; exact Nat.eq_of_beq_eq_true e1
            · rcases hadr with rfl | ⟨rfl, g⟩
              · exact .inl ⟨rfl, rfl⟩
              · exact .inr ⟨rfl, g⟩
          case h_2 hc =>
            split at hr
            case h_2 => cases hr
            case h_1 hc2 =>
            simp only [Bool.or_eq_true] at hc2
            rcases hc2 with hc2 | hc2 <;> (have := Nat.eq_of_beq_eq_true hc2; omega)
        case slOpen id off size' cap cc o s a hσ hp' hle hadr _ =>
          split at hr
          case h_1 hc => have := Nat.eq_of_beq_eq_true hc; omega
          case h_2 hc =>
            split at hr
            case h_2 => cases hr
            case h_1 hc2 =>
            simp only [Bool.or_eq_true] at hc2
            obtain rfl : size' = size := by rcases hc2 with hc2 | hc2 <;> (have := Nat.eq_of_beq_eq_true hc2; omega)
            refine fin (some a) cap full rfl hle (fun e => e) (fun e1 e2 => by rw [e1] at e2; cases e2) hr ⟨cc, o, s, hσ, rfl, ?_⟩
            rcases hadr with ⟨rfl, g⟩ | ⟨g1, g2⟩
            · exact .inr ⟨rfl, g⟩
            · exact .inl ⟨g1, g2⟩
    case array n e =>
      cases hsz : sizeB P e with
      | none => rw [hsz] at hr; cases hr
      | some size =>
        rw [hsz] at hr
        simp only at hr
        split at hr
        case h_2 => cases hr
        case h_1 hp =>
        rw [blt_eq] at hp
        have hp := of_decide_eq_true hp
        simp only [sliceArr] at hr
        cases x <;> simp only at hr <;> first | (cases hr; done) | skip
        rename_i a
        cases a with
        | none => cases hr
        | some a =>
          obtain ⟨id, off, sp⟩ := a
          obtain ⟨rfl, c, o, s, rfl, hσ⟩ := hx.ptr_inv
          simp only at hr
          split at hr
          case h_1 => cases hr
          case h_2 b hg =>
          split at hr
          case h_1 => cases hr
          case h_2 hfit =>
          rw [ble_eq, lenN_eq] at hfit
          have hfit := of_decide_eq_true hfit
          split at hr
          case h_2 => cases hr
          case h_1 hh h1 =>
          split at hr
          case h_2 => cases hr
          case h_1 l h2 =>
          split at hr
          case h_2 => cases hr
          case h_1 full h3 =>
          obtain ⟨c', o', s', arr, ty, fr, e1, e2, e3, e4, e5, _⟩ := hs.blk id b (hax ⟨_, _, hu⟩ id rfl b hg)
          rw [hσ] at e1; cases e1
          obtain ⟨m, b1, b2, b3, b4⟩ := bounds_ok (P := P) (isSlice := false) hlo hhi hmx (Nat.le_refl n) h1 h2 h3 w
          refine ⟨_, ?_, reslice_ok (m := m) (cap := n) (a' := some ⟨c, o + off, none⟩) hp hr b2 ?_ b3 ⟨c, o, s, hσ, rfl, .inr ⟨rfl, by simp only; omega⟩⟩⟩
          · simp only [Instr.sliceAt, Instr.sureAddr, Sem.run_bind, run_underlying hu, Result.andThen_ok, Sem.run_pure, b1, sizeB_run hsz]
            congr 2
            split <;> rfl
          · rw [b4]
            cases full with
            | true => simp
            | false =>
              cases hq : Nat.beq hh n with
              | false => simp
              | true => simp [Nat.eq_of_beq_eq_true hq]
end
end Go.Ab
