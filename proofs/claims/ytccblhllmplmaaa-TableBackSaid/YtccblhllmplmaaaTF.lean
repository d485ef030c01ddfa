/- texts of the proof, one behind the other -/
import Derived.Test.YtccblhllmplmaaaTE
set_option linter.unusedVariables false
set_option maxRecDepth 100000
namespace T
open Go Go.Ab
variable {xs ys zs bs : List Int} {e : Int} {c : Ch} {l : List Ch} {k n : Nat} {s s' : Sl} {t : Tb}
/-! bytes, and back -/
theorem leV_leN : ∀ (y n : Nat), n < 256 ^ y → leV (leN y n) = n
  | 0, n, h => by simp at h; subst h; rfl
  | y + 1, n, h => by
    have h1 : n / 256 < 256 ^ y := by rw [Nat.pow_succ] at h; omega
    have e1 : leN (y + 1) n = ((n % 256 : Nat) : Int) :: leN y (n / 256) := by
      have := leN_cons (n / 256) (n % 256) y (by omega)
      rwa [show n % 256 + 256 * (n / 256) = n by omega] at this
    rw [e1]
    show (((n % 256 : Nat) : Int)).toNat + 256 * leV (leN y (n / 256)) = n
    rw [leV_leN y _ h1]
    omega
theorem leV_nat {x : Int} {y : Nat} (h0 : 0 ≤ x) (h : x.toNat < 256 ^ y) : ((leV (leN y x.toNat) : Nat) : Int) = x := by rw [leV_leN _ _ h]; omega
theorem tk_app {av : List Int} (h : av.length = n) : tkB (av ++ bs) 0 n = av ∧ tkR (av ++ bs) 0 n = bs ∧ tkE (av ++ bs) 0 n = 0 := by
  obtain ⟨a, b, c⟩ := tk_ok (xs := av ++ bs) (n := n) (by simp; omega)
  rw [a, b, c, List.take_left' h, List.drop_left' h]
  exact ⟨rfl, rfl, rfl⟩
theorem slOf_app {a1 a2 a3 a4 a5 : List Int} (h1 : a1.length = 1) (h2 : a2.length = 1) (h3 : a3.length = 8) (h4 : a4.length = 4) (h5 : a5.length = 32) : slOf (a1 ++ a2 ++ a3 ++ a4 ++ a5) = ⟨leV a1, leV a2, leV a3, leV a4, fun i => a5.getD i 0⟩ := by
  unfold slOf
  have e1 : (a1 ++ a2 ++ a3 ++ a4 ++ a5) = a1 ++ (a2 ++ (a3 ++ (a4 ++ (a5 ++ [])))) := by simp
  rw [e1]
  have d1 : ∀ r, (a1 ++ r).drop 1 = r := fun r => List.drop_left' h1
  have d2 : ∀ r, (a1 ++ (a2 ++ r)).drop 2 = r := fun r => by rw [show 2 = 1 + 1 from rfl, ← List.drop_drop, d1, List.drop_left' h2]
  have d3 : ∀ r, (a1 ++ (a2 ++ (a3 ++ r))).drop 10 = r := fun r => by rw [show 10 = 2 + 8 from rfl, ← List.drop_drop, d2, List.drop_left' h3]
  have d4 : ∀ r, (a1 ++ (a2 ++ (a3 ++ (a4 ++ r)))).drop 14 = r := fun r => by rw [show 14 = 10 + 4 from rfl, ← List.drop_drop, d3, List.drop_left' h4]
  rw [d1, d2, d3, d4, List.take_left' h1, List.take_left' h2, List.take_left' h3, List.take_left' h4, List.take_left' h5]
theorem slOf_sBy (hr : SRight s) : slC (slOf (sBy s)) = slC s := by
  obtain ⟨n1, n2, n3, n4⟩ := hr.nn
  unfold sBy
  rw [slOf_app (leN_len _ _) (leN_len _ _) (leN_len _ _) (leN_len _ _) (by simp [dgL])]
  show int _ :: int _ :: .int .u64 _ :: int _ :: dgC _ = int s.st :: int s.tr :: .int .u64 s.ver :: int s.sz :: dgC s.dg
  rw [leV_nat n1.1 (by omega), leV_nat n2.1 (by omega), leV_nat n3.1 (by omega), leV_nat n4.1 (by omega)]
  congr 4
theorem slC_inj (h : slC s = slC s') : s.st = s'.st ∧ s.tr = s'.tr ∧ s.ver = s'.ver ∧ s.sz = s'.sz ∧ dgC s.dg = dgC s'.dg := by
  have h : int s.st :: int s.tr :: .int .u64 s.ver :: int s.sz :: dgC s.dg = int s'.st :: int s'.tr :: .int .u64 s'.ver :: int s'.sz :: dgC s'.dg := h
  simp only [List.cons.injEq, Value.int.injEq, true_and] at h
  exact h
theorem SRight_congr (h : slC s = slC s') : SRight s ↔ SRight s' := by
  obtain ⟨h1, h2, h3, h4, h5⟩ := slC_inj h
  unfold SRight SNone SImg Dz
  rw [h1, h2, h3, h4, h5]
theorem SZ_congr (h : slC s = slC s') : SZ s ↔ SZ s' := by
  unfold SZ SEq
  rw [h]
theorem CRight_congr {c c' : Ch} (h1 : c.kind = c'.kind) (h2 : c.slot = c'.slot) (h3 : c.n = c'.n) (h4 : c.ver = c'.ver) (h : slC c.to = slC c'.to) : CRight c ↔ CRight c' := by
  unfold CRight
  rw [h1, h2, h3, h4, SRight_congr h, SZ_congr h]
theorem str_ext {x y : ByteArray} (h : x.data.toList = y.data.toList) : x = y := by
  obtain ⟨x⟩ := x
  obtain ⟨y⟩ := y
  have h : x.toList = y.toList := h
  rw [Array.ext' h]
/-- what was written is read -/
theorem dec_cBy (hc : CRight c) (hv : 0 ≤ c.ver) : chC (dec (cBy c ++ zs) 0).1 = chC c ∧ (dec (cBy c ++ zs) 0).2.1 = zs ∧ DOk (dec (cBy c ++ zs) 0) := by
  have fin : ∀ d : Ch × List Int × Int × Int, d.1.kind = c.kind → d.1.slot = c.slot → d.1.n = c.n → d.1.ver = c.ver → slC d.1.to = slC c.to → d.2 = (zs, 0, 0) → chC d.1 = chC c ∧ d.2.1 = zs ∧ DOk d := by
    intro d h1 h2 h3 h4 h5 h6
    refine ⟨?_, by rw [h6], ?_⟩
    · show int _ :: int _ :: int _ :: (slC _ ++ [.int .u64 _]) = int c.kind :: int c.slot :: int c.n :: (slC c.to ++ [.int .u64 c.ver])
      rw [h1, h2, h3, h4, h5]
    · refine ⟨by rw [h6], by rw [h6], (CRight_congr h1 h2 h3 h4 h5).2 hc⟩
  have hk : 1 ≤ c.kind ∧ c.kind ≤ 4 := by rcases hc with h | h | h | h <;> omega
  have kk : ∀ r, tkB (leN 1 c.kind.toNat ++ r) 0 1 = leN 1 c.kind.toNat ∧ tkR (leN 1 c.kind.toNat ++ r) 0 1 = r ∧ tkE (leN 1 c.kind.toNat ++ r) 0 1 = 0 := fun r => tk_app (leN_len _ _)
  have kn : ∀ r, numB (leN 1 c.kind.toNat ++ r) 0 1 = c.kind.toNat := fun r => by unfold numB; rw [(kk r).1, leV_leN _ _ (by omega)]
  have szz : SZ c.to → slC (slz 0) = slC c.to := fun h => by
    have h : eqCells (slC (slz 0)) (slC c.to) = true := h
    have hcells : ∀ (av bs' : List Value) (ks : List CK), Fit ks av → Fit ks bs' → eqCells av bs' = true → av = bs' := by
      intro av
      induction av with
      | nil => intro bs' ks h1 h2 h3; cases bs' with
        | nil => rfl
        | cons _ _ => cases h3
      | cons a av ih => intro bs' ks h1 h2 h3; cases bs' with
        | nil => cases h3
        | cons b bs' =>
          cases ks with
          | nil => exact absurd h1 id
          | cons kd ks =>
            have h3 : (cellEq a b && eqCells av bs') = true := h3
            rw [Bool.and_eq_true] at h3
            rw [ih bs' ks h1.2 h2.2 h3.2]
            congr 1
            have f1 := h1.1
            have f2 := h2.1
            have ce := h3.1
            cases kd <;> cases a <;> cases b <;> first | (exact absurd f1 id) | (exact absurd f2 id) | (cases ce; done) | skip
            · have ce : (_ == _) = true := ce
              rw [beq_iff_eq.1 ce]
            · have ce : decide (_ = _) = true := ce
              have f1 : _ = _ := f1
              have f2 : _ = _ := f2
              rw [of_decide_eq_true ce, ← f1, ← f2]
            · exact congrArg Value.string (str_ext (beq_iff_eq.1 ce))
    exact hcells _ _ kS (fitS _) (fitS _) h
  unfold cBy
  rw [List.append_assoc]
  unfold dec
  rw [kn, (kk _).2.1, (kk _).2.2]
  by_cases k1 : c.kind = 1
  · obtain ⟨hi, hs, hn, hv0⟩ : Ix c.slot ∧ SRight c.to ∧ c.n = 0 ∧ c.ver = 0 := by rcases hc with h | h | h | h; exact ⟨h.2.1.1, h.2.1.2, h.2.2.1, h.2.2.2⟩; all_goals omega
    have hib := hi.bd
    rw [if_pos (show c.kind.toNat = 1 by omega), if_pos k1, List.append_assoc, sBy'_right hs]
    obtain ⟨a1, a2, a3⟩ := tk_app (av := leN 1 c.slot.toNat) (bs := sBy c.to ++ zs) (n := 1) (leN_len _ _)
    obtain ⟨b1, b2, b3⟩ := tk_app (av := sBy c.to) (bs := zs) (n := 46) sBy_len
    unfold numB
    rw [a1, a2, a3, b2, b3]
    have hl : 46 ≤ (sBy c.to ++ zs).length := by simp [sBy_len]
    have hsl : (sBy c.to ++ zs).take 46 = sBy c.to := List.take_left' sBy_len
    have hrr : SRight (slOf (sBy c.to)) := (SRight_congr (slOf_sBy hs)).2 hs
    rw [rSlot_ok hl, hsl, if_pos hrr]
    refine fin _ k1.symm ?_ hn.symm hv0.symm (slOf_sBy hs) rfl
    show ((leV (leN 1 c.slot.toNat) : Nat) : Int) = c.slot
    exact leV_nat hib.1 (by omega)
  rw [if_neg (show ¬ c.kind.toNat = 1 by omega), if_neg k1]
  by_cases k2 : c.kind = 2
  · obtain ⟨hi, hs, hz, hv0⟩ : Ix c.n ∧ c.slot = 0 ∧ SZ c.to ∧ c.ver = 0 := by rcases hc with h | h | h | h; omega; exact h.2; all_goals omega
    have hib := hi.bd
    rw [if_pos (show c.kind.toNat = 2 by omega), if_pos k2]
    obtain ⟨a1, a2, a3⟩ := tk_app (av := leN 1 c.n.toNat) (bs := zs) (n := 1) (leN_len _ _)
    unfold numB
    rw [a1, a2, a3]
    refine fin _ k2.symm hs.symm ?_ hv0.symm (szz hz) rfl
    exact leV_nat hib.1 (by omega)
  rw [if_neg (show ¬ c.kind.toNat = 2 by omega), if_neg k2]
  by_cases k3 : c.kind = 3
  · obtain ⟨hi, hs, hz, hv0⟩ : (c.n = -1 ∨ Ix c.n) ∧ c.slot = 0 ∧ SZ c.to ∧ c.ver = 0 := by rcases hc with h | h | h | h; omega; omega; exact h.2; omega
    have hib : -1 ≤ c.n ∧ c.n ≤ 1 := by rcases hi with h | h; omega; have := h.bd; omega
    rw [if_pos (show c.kind.toNat = 3 by omega), if_pos k3]
    obtain ⟨a1, a2, a3⟩ := tk_app (av := leN 1 (c.n + 1).toNat) (bs := zs) (n := 1) (leN_len _ _)
    unfold numB
    rw [a1, a2, a3]
    refine fin _ k3.symm hs.symm ?_ hv0.symm (szz hz) rfl
    show ((leV (leN 1 (c.n + 1).toNat) : Nat) : Int) - 1 = c.n
    rw [leV_nat (by omega) (by omega)]; omega
  rw [if_neg (show ¬ c.kind.toNat = 3 by omega), if_neg k3]
  have k4 : c.kind = 4 := by omega
  obtain ⟨hvv, hs, hn, hz⟩ : c.ver ≤ 281474976710656 ∧ c.slot = 0 ∧ c.n = 0 ∧ SZ c.to := by rcases hc with h | h | h | h; omega; omega; omega; exact h.2
  rw [if_pos (show c.kind.toNat = 4 by omega)]
  obtain ⟨a1, a2, a3⟩ := tk_app (av := leN 8 c.ver.toNat) (bs := zs) (n := 8) (leN_len _ _)
  unfold numB
  rw [a1, a2, a3]
  refine fin _ k4.symm hs.symm hn.symm ?_ (szz hz) rfl
  exact leV_nat hv (by omega)
theorem pGo_cBy : ∀ (l : List Ch) (zs : List Int), (∀ c ∈ l, CRight c) → (∀ c ∈ l, 0 ≤ c.ver) → ∃ l', pGo l.length (l.flatMap cBy ++ zs) 0 = some (l', zs, 0) ∧ chs l' = chs l ∧ l'.length = l.length
  | [], zs, _, _ => ⟨[], rfl, rfl, rfl⟩
  | c :: l, zs, hc, hv => by
    obtain ⟨d1, d2, d3⟩ := dec_cBy (zs := l.flatMap cBy ++ zs) (hc c List.mem_cons_self) (hv c List.mem_cons_self)
    obtain ⟨l', h1, h2, h3⟩ := pGo_cBy l zs (fun c h => hc c (List.mem_cons_of_mem _ h)) (fun c h => hv c (List.mem_cons_of_mem _ h))
    refine ⟨(dec (cBy c ++ (l.flatMap cBy ++ zs)) 0).1 :: l', ?_, ?_, by simp [h3]⟩
    · show pGo (l.length + 1) ((cBy c ++ l.flatMap cBy) ++ zs) 0 = _
      rw [List.append_assoc]
      show (if DOk (dec (cBy c ++ (l.flatMap cBy ++ zs)) 0) then _ else _) = _
      rw [if_pos d3, d2, d3.2.1, h1]; rfl
    · show chC _ ++ chs l' = chC c ++ chs l
      rw [d1, h2]
theorem lBy_ok (h : TOk l) : lBy l = leN 1 l.length ++ l.flatMap cBy := if_pos h
theorem lBy_num (h : TOk l) (r : List Int) : numB (leN 1 l.length ++ r) 0 1 = l.length ∧ tkR (leN 1 l.length ++ r) 0 1 = r ∧ tkE (leN 1 l.length ++ r) 0 1 = 0 := by
  obtain ⟨a1, a2, a3⟩ := tk_app (av := leN 1 l.length) (bs := r) (n := 1) (leN_len _ _)
  refine ⟨?_, a2, a3⟩
  unfold numB
  rw [a1]
  exact leV_leN _ _ (by have := h.1; omega)
theorem get_put (h : TOk l) (hv : ∀ c ∈ l, 0 ≤ c.ver) : ∃ l', tGet (lBy l) = (l', 0) ∧ chs l' = chs l ∧ l'.length = l.length := by
  obtain ⟨l', h1, h2, h3⟩ := pGo_cBy l [] h.2 hv
  rw [List.append_nil] at h1
  obtain ⟨a1, a2, a3⟩ := lBy_num h (l.flatMap cBy)
  refine ⟨l', ?_, h2, h3⟩
  rw [lBy_ok h]
  unfold tGet
  rw [a1, a2, a3, if_pos h.1, h1]
  rfl
theorem get_more (h : TOk l) (hv : ∀ c ∈ l, 0 ≤ c.ver) : tGet (lBy l ++ [0]) = ([], 111) := by
  obtain ⟨l', h1, h2, h3⟩ := pGo_cBy l [0] h.2 hv
  obtain ⟨a1, a2, a3⟩ := lBy_num h (l.flatMap cBy ++ [0])
  rw [lBy_ok h, List.append_assoc]
  unfold tGet
  rw [a1, a2, a3, if_pos h.1, h1]
  rfl
theorem get_less (h : TOk l) (hv : ∀ c ∈ l, 0 ≤ c.ver) (hb : By (lBy l)) : tGet ((lBy l).take ((lBy l).length - 1)) = ([], 111) := by
  rw [lBy_ok h] at hb ⊢
  have hlen : (leN 1 l.length ++ l.flatMap cBy).length = 1 + (l.flatMap cBy).length := by rw [List.length_append, leN_len]
  rw [hlen, show 1 + (l.flatMap cBy).length - 1 = (l.flatMap cBy).length by omega]
  generalize hF : l.flatMap cBy = F at *
  by_cases hF0 : F = []
  · subst hF0
    rfl
  obtain ⟨F', y, rfl⟩ : ∃ F' y, F = F' ++ [y] := ⟨F.dropLast, F.getLast hF0, (List.dropLast_concat_getLast hF0).symm⟩
  have et : (leN 1 l.length ++ (F' ++ [y])).take (F' ++ [y]).length = leN 1 l.length ++ F' := by
    rw [← List.append_assoc]
    exact List.take_left' (by simp [leN_len]; omega)
  rw [et]
  obtain ⟨a1, a2, a3⟩ := lBy_num h F'
  unfold tGet
  rw [a1, a2, a3, if_pos h.1]
  have hbF : By F' := fun x hx => hb x (List.mem_append.2 (.inr (List.mem_append.2 (.inl hx))))
  cases hp : pGo l.length F' 0 with
  | none => rfl
  | some r =>
    obtain ⟨i1, i2, i3, i4⟩ := pGo_sound _ _ _ hbF hp
    have hver : ∀ c ∈ r.1, 0 ≤ c.ver := fun c hc => by
      have := rGo_cby l.length F' 0 hbF c (by rw [i2]; exact hc)
      exact this.2
    have hlen : r.1.length = l.length := by rw [← i2]; exact rGo_len _ _ _
    simp only
    rw [if_neg]
    intro hE
    have hnil := (rEnd_zero hE).2
    rw [hnil, List.append_nil] at i3
    obtain ⟨l1, g1, _, _⟩ := pGo_cBy r.1 [y] i4 hver
    obtain ⟨l2, g2, _, _⟩ := pGo_cBy l [] h.2 hv
    rw [← i3, hlen, ← hF, ← List.append_nil (l.flatMap cBy), g2] at g1
    cases g1
/-! a table -/
theorem tBy_ok (h : TRight t) : tBy t = sBy t.a ++ sBy t.b ++ leN 1 t.act.toNat ++ leN 1 (t.boo + 1).toNat ++ leN 8 t.flo.toNat := if_pos h
theorem tBy_len (h : TRight t) : (tBy t).length = 102 := by rw [tBy_ok h]; simp [sBy_len, leN_len]
theorem parse_bytes (h : TRight t) (hf : 0 ≤ t.flo) : ∃ t', tParse (tBy t) = (t', 0) ∧ tbC t' = tbC t := by
  have n3 := h.2.2.1.bd
  have n4 : -1 ≤ t.boo ∧ t.boo ≤ 1 := by rcases h.2.2.2.1 with h | h; omega; have := h.bd; omega
  have n5 := h.2.2.2.2
  have e1 : tBy t = sBy t.a ++ (sBy t.b ++ (leN 1 t.act.toNat ++ (leN 1 (t.boo + 1).toNat ++ (leN 8 t.flo.toNat ++ [])))) := by rw [tBy_ok h]; simp
  have d1 : ∀ r, (sBy t.a ++ r).drop 46 = r := fun r => List.drop_left' sBy_len
  have d2 : ∀ r, (sBy t.a ++ (sBy t.b ++ r)).drop 92 = r := fun r => by rw [show 92 = 46 + 46 from rfl, ← List.drop_drop, d1, List.drop_left' sBy_len]
  have d3 : ∀ r, (sBy t.a ++ (sBy t.b ++ (leN 1 t.act.toNat ++ r))).drop 93 = r := fun r => by rw [show 93 = 92 + 1 from rfl, ← List.drop_drop, d2, List.drop_left' (leN_len _ _)]
  have d4 : ∀ r, (sBy t.a ++ (sBy t.b ++ (leN 1 t.act.toNat ++ (leN 1 (t.boo + 1).toNat ++ r)))).drop 94 = r := fun r => by rw [show 94 = 93 + 1 from rfl, ← List.drop_drop, d3, List.drop_left' (leN_len _ _)]
  have et : tabOf (tBy t) = ⟨slOf (sBy t.a), slOf (sBy t.b), t.act, t.boo, t.flo⟩ := by
    unfold tabOf
    rw [e1, d1, d2, d3, d4, List.take_left' sBy_len, List.take_left' sBy_len, List.take_left' (leN_len _ _), List.take_left' (leN_len _ _), List.take_left' (leN_len _ _), leV_nat n3.1 (by omega), leV_nat (by omega) (by omega), leV_nat hf (by omega)]
    congr 1
    omega
  have ea := slOf_sBy h.1
  have eb := slOf_sBy h.2.1
  refine ⟨tabOf (tBy t), ?_, ?_⟩
  · unfold tParse
    rw [if_pos]
    refine ⟨tBy_len h, ?_⟩
    rw [et]
    exact ⟨(SRight_congr ea).2 h.1, (SRight_congr eb).2 h.2.1, h.2.2⟩
  · rw [et]
    show slC _ ++ (slC _ ++ _) = slC t.a ++ (slC t.b ++ _)
    rw [ea, eb]
theorem parse_len (h : bs.length ≠ 102) : tParse bs = (tbz, 111) := if_neg fun h' => h h'.1
/-! one by one -/
theorem ap1_right {c : Ch} {t' : Tb} (h : TRight t) (hc : CRight c) (h1 : ap1 t c = some t') : TRight t' := by
  have hg : Goes t c := by
    refine ⟨hc, fun h4 => ?_⟩
    unfold ap1 at h1
    rw [if_neg (by omega), if_neg (by omega), if_neg (by omega)] at h1
    split at h1
    · cases h1
    · omega
  obtain ⟨t2, e, r, _⟩ := ap1_ok h hg
  rw [h1] at e
  cases e
  exact r
theorem apL_right : ∀ (l : List Ch) {t t' : Tb}, TRight t → (∀ c ∈ l, CRight c) → apL t l = some t' → TRight t'
  | [], t, t', h, _, e => by cases e; exact h
  | c :: l, t, t', h, hc, e => by
    have e : (match ap1 t c with | some t' => apL t' l | none => none) = some t' := e
    cases h1 : ap1 t c with
    | none => rw [h1] at e; cases e
    | some t1 =>
      rw [h1] at e
      exact apL_right l (ap1_right h (hc c List.mem_cons_self) h1) (fun c hc' => hc c (List.mem_cons_of_mem _ hc')) e
theorem apL_snoc : ∀ (l : List Ch) (t : Tb) (c : Ch), apL t (l ++ [c]) = match apL t l with | some t' => ap1 t' c | none => none
  | [], t, c => by show (match ap1 t c with | some t' => apL t' [] | none => none) = ap1 t c; cases ap1 t c <;> rfl
  | d :: l, t, c => by
    show (match ap1 t d with | some t' => apL t' (l ++ [c]) | none => none) = _
    cases h : ap1 t d with
    | none => show none = (match apL t (d :: l) with | some t' => ap1 t' c | none => none); rw [show apL t (d :: l) = none by show (match ap1 t d with | some t' => apL t' l | none => none) = none; rw [h]]
    | some t1 =>
      show apL t1 (l ++ [c]) = (match apL t (d :: l) with | some t' => ap1 t' c | none => none)
      rw [apL_snoc l t1 c, show apL t (d :: l) = apL t1 l by show (match ap1 t d with | some t' => apL t' l | none => none) = _; rw [h]]
def stepT (t : Tb) (l : List Ch) : Tb × Int := match apL t l with
  | some t' => (t', 0)
  | none => (tbz, 111)
theorem stepT_all (h : TRight t) (hl : TOk l) : tApply t l = stepT t l := if_pos ⟨h, hl⟩
theorem stepT_one {y : Nat} (h : TRight t) (hl : TOk l) (hy : y < l.length) : (if (stepT t (l.take y)).2 = 0 then tApply (stepT t (l.take y)).1 [l[y]] else stepT t (l.take y)) = stepT t (l.take (y + 1)) := by
  rw [List.take_succ_eq_append_getElem hy]
  unfold stepT
  rw [apL_snoc]
  cases h1 : apL t (l.take y) with
  | none => rw [if_neg (by decide)]
  | some t1 =>
    rw [if_pos rfl]
    have hr := apL_right _ h (fun c hc => hl.2 c (List.mem_of_mem_take hc)) h1
    show tApply t1 [l[y]] = _
    unfold tApply
    rw [if_pos ⟨hr, by simp, fun c hc => by
      have : c = l[y] := by simpa using hc
      subst this; exact hl.2 _ (List.getElem_mem hy)⟩]
    show (match (match ap1 t1 l[y] with | some t' => apL t' [] | none => none) with | some t' => (t', (0 : Int)) | none => (tbz, 111)) = _
    show _ = (match ap1 t1 l[y] with | some t' => (t', (0 : Int)) | none => (tbz, 111))
    cases ap1 t1 l[y] <;> rfl
end T
set_option linter.unusedVariables false
set_option maxRecDepth 100000
namespace T
open Go Go.Ab
variable {H : Heap} {Γ G : List (Nat × Blk)} {K : Value → Heap → Prop} {v w x : Value} {xs ys bs : List Int} {j p : Nat} {e : Int} {l : List Ch} {t : Tb}
def InG (G : List (Nat × Blk)) (p : Nat) (cs : List Value) : Prop := ∃ (j : Nat), G[j]? = some (p, (⟨cs, true⟩ : Blk))
theorem InG.app {Δ : List (Nat × Blk)} {cs : List Value} (h : InG G p cs) : InG (G ++ Δ) p cs := by
  obtain ⟨j, h⟩ := h
  exact ⟨j, at_l h⟩
theorem InG.last {cs : List Value} : InG (G ++ [(p, ⟨cs, true⟩)]) p cs := ⟨G.length + 0, at_r rfl⟩
theorem rdb_init (h : RdB G v bs) (hx : bs ≠ []) : ∃ v', sliceSl 1 v none (some (int ((bs.length : Int) - 1))) none = some v' ∧ RdB G v' (bs.take (bs.length - 1)) := by
  rcases h with ⟨rfl, rfl⟩ | ⟨p, o, c, rfl, hc, h⟩
  · exact absurd rfl hx
  · have hl : 0 < bs.length := List.length_pos_iff.2 hx
    obtain ⟨c', hc', e⟩ := slice_to (p := p) (o := o) (n := bs.length) (c := c) (h := (bs.length : Int) - 1) (by omega) (by omega) hc
    refine ⟨_, e, .inr ⟨p, o, c', ?_, hc', ?_⟩⟩
    · rw [List.length_take]; congr 1; omega
    · rcases h with h | ⟨j, b, h1, h2⟩
      · exact absurd h hx
      · refine .inr ⟨j, b, h1, ?_⟩
        have e3 : (bs.take (bs.length - 1)).length = bs.length - 1 := by rw [List.length_take]; omega
        rw [e3]
        have : ((b.cells.drop o).take bs.length).take (bs.length - 1) = (by8 bs).take (bs.length - 1) := by rw [h2]
        rw [List.take_take, Nat.min_eq_left (by omega)] at this
        rw [this]
        simp [by8, List.map_take]
theorem parse_step {K : Value → Value → Heap → Prop} (hO : St H G) (hv : RdB G v bs) (hx : bs.length ≤ 1000000) (hb : By bs) (hk : ∀ H' p, St H' (G ++ [(p, ⟨tbC (tParse bs).1, true⟩)]) → K (int (tParse bs).2) (ptr p 0) H') :
    wCall P n_table_Parse [v] H fun t H => opP (extA 0 t) fun a => opP (extA 1 t) fun e => wNew (zc P 37) H fun q H => opW (storeTo 75 q a H) fun _ H => K e q H := by
  refine table_Parse_spec hO hv hx hb ?_
  intro H hO
  refine opP_i ext0 ?_
  refine opP_i ext1 ?_
  rw [zc29]
  refine new_at hO ?_
  intro p3 H hO
  refine storeAll_at hO (G.length + 0) (at_r rfl) rfl rfl rfl ?_
  intro H hO
  exact hk _ _ hO.set_r
theorem cut_step {K : Value → Prop} (hv : RdB G v bs) (hx : bs ≠ []) (hl : bs.length ≤ 1000000) (hk : ∀ v', RdB G v' (bs.take (bs.length - 1)) → K v') :
    opP ((binC P .sub 3 true).f (int bs.length) (.int .i64 1)) fun t => opP (sliceSl 1 v none (some t) none) K := by
  obtain ⟨v', e, h⟩ := rdb_init hv hx
  have := List.length_pos_iff.2 hx
  (first | refine opP_i (by first | exact qa | exact qs | exact nilCheck_ptr | exact offPtr_ptr | exact bin_eql | exact bin_neq | exact bin_lss | exact bin_gtr | exact bin_leq | exact bin_geq | exact un_not | exact pick_true | exact pick_false | exact qy | exact qn | exact qi | exact qj) ?_ | refine opW_i (by first | exact lenSl_sl | exact min_w | exact max_w) ?_ | refine wy ?_ | refine wn ?_ | refine wIf_t rfl ?_ | refine wIf_f rfl ?_ | refine cond_yes rfl ?_ | refine cond_no rfl ?_)
  refine opP_i e ?_
  exact hk _ h
theorem copy_step (hO : St H G) (hv : RdB G v bs) (hl : bs.length ≤ 1000000) (hk : ∀ H' v' D, St H' (G ++ D) → RdB (G ++ D) v' (bs ++ [0]) → K v' H') :
    opW ((buildSliceC P 46 0).f [] H) fun t H => opW (appendWith 1 1 t v H) fun t H => opW ((buildSliceC P 46 1).f [(0, .int .u8 0)] H) fun u H => opW (appendWith 1 1 t u H) K := by
  refine newSl_at hO (bs46_0 _) ?_
  intro r H hO
  refine append_by (v := sl r 0 0 3) (cs := []) (xs := []) hO (.inr ⟨r, .inr ⟨rfl, rfl⟩, rfl, Nat.le_refl _, rfl⟩) hv (by simp; omega) ?_
  clear hO
  intro H v1 c1 hO h1
  refine newSl_at hO (bs46_1 _ _ _) ?_
  intro q H hO
  refine append_new (ys := [0]) hO h1 (by simp; omega) rfl (.inr rfl) ?_
  clear hO
  intro H v2 c2 hO h2
  exact hk _ _ _ hO h2.rd.app'
theorem transaction_long (hv : RdC G v l) (hl : 8 < l.length) (hk : K (.bool false) H) : wCall P n_table_transaction [v] H K := by
  apply table_transaction_ok; unfold table_transaction
  refine opW_i (by rw [hv.1]) ?_
  repeat (first | refine opP_i (by first | exact qa | exact qs | exact nilCheck_ptr | exact offPtr_ptr | exact bin_eql | exact bin_neq | exact bin_lss | exact bin_gtr | exact bin_leq | exact bin_geq | exact un_not | exact pick_true | exact pick_false | exact qy | exact qn | exact qi | exact qj) ?_ | refine opW_i (by first | exact lenSl_sl | exact min_w | exact max_w) ?_ | refine wy ?_ | refine wn ?_ | refine wIf_t rfl ?_ | refine wIf_f rfl ?_ | refine cond_yes rfl ?_ | refine cond_no rfl ?_)
  exact hk
theorem Put_long (hv : RdC G v l) (hl : 8 < l.length) (hk : K nilSl H) : wCall P n_table_Put [v] H K := by
  apply table_Put_ok; unfold table_Put
  refine transaction_long hv hl ?_
  repeat (first | refine opP_i (by first | exact qa | exact qs | exact nilCheck_ptr | exact offPtr_ptr | exact bin_eql | exact bin_neq | exact bin_lss | exact bin_gtr | exact bin_leq | exact bin_geq | exact un_not | exact pick_true | exact pick_false | exact qy | exact qn | exact qi | exact qj) ?_ | refine opW_i (by first | exact lenSl_sl | exact min_w | exact max_w) ?_ | refine wy ?_ | refine wn ?_ | refine wIf_t rfl ?_ | refine wIf_f rfl ?_ | refine cond_yes rfl ?_ | refine cond_no rfl ?_)
  exact hk
theorem lBy_no (h : ¬ TOk l) : lBy l = [] := if_neg h
theorem tBy_no (h : ¬ TRight t) : tBy t = [] := if_neg h
theorem tBy_zero : (tBy t).length = 0 ↔ ¬ TRight t := by
  constructor
  · intro h h'; rw [tBy_len h'] at h; omega
  · intro h; rw [tBy_no h]; rfl
theorem lBy_zero : (lBy l).length = 0 ↔ ¬ TOk l := by
  constructor
  · intro h h'; rw [lBy_ok h', List.length_append, leN_len] at h; omega
  · intro h; rw [lBy_no h]; rfl
theorem By_tBy (ha : ∀ i, 0 ≤ t.a.dg i ∧ t.a.dg i ≤ 255) (hb : ∀ i, 0 ≤ t.b.dg i ∧ t.b.dg i ≤ 255) : By (tBy t) := by
  by_cases h : TRight t
  · rw [tBy_ok h, ← sBy'_right h.1, ← sBy'_right h.2.1]
    exact ((((By_sBy' ha).app (By_sBy' hb)).app (By_leN _ _)).app (By_leN _ _)).app (By_leN _ _)
  · rw [tBy_no h]; intro x hx; cases hx
theorem lBy_len (hl : l.length ≤ 1000) : (lBy l).length ≤ 100000 := by
  unfold lBy
  split
  · have := cBys_len l
    rw [List.length_append, leN_len]; omega
  · simp
end T
set_option linter.unusedVariables false
set_option maxRecDepth 100000
namespace T
open Go Go.Ab
variable {H : Heap} {Γ G : List (Nat × Blk)} {K : Value → Heap → Prop} {v w x : Value} {xs ys bs : List Int} {j p : Nat} {e : Int} {l : List Ch} {t : Tb}
set_option maxHeartbeats 2000000 in
theorem back_loop {p19 p21 : Nat} {Qx : Nat → List Value → Heap → Prop} {Qr : List Value → Heap → Prop} (hO : St H (G ++ [(p19, ⟨tbC (tApply t l).1, true⟩), (p21, ⟨tbC t, true⟩)])) (hv : RdC G v l) (hr : TRight t) (hk : TOk l)
    (hq : ∀ H', St H' (G ++ [(p19, ⟨tbC (tApply t l).1, true⟩), (p21, ⟨tbC (tApply t l).1, true⟩)]) → Qx 0 [.bool false, ptr p19 0, int (tApply t l).2, ptr p21 0, int (tApply t l).2] H') :
    wLoop P true 167 law11_TableBack_P0 7864336 [.bool false, ptr p19 0, int (tApply t l).2, ptr p21 0, int 0, v, int l.length, int 0] H Qx Qr := by
  refine law11_TableBack_L0_ind (fun k l' H' => ∃ y : Nat, y ≤ l.length ∧ k = l.length - y ∧ l' = [.bool false, ptr p19 0, int (tApply t l).2, ptr p21 0, int (stepT t (l.take y)).2, v, int l.length, int y] ∧ St H' (G ++ [(p19, ⟨tbC (tApply t l).1, true⟩), (p21, ⟨tbC (stepT t (l.take y)).1, true⟩)])) _ _ ?_ l.length _ _ ⟨0, by omega, rfl, rfl, hO⟩
  clear hO
  rintro k l' H' ⟨y, hy, rfl, rfl, hO⟩
  unfold law11_TableBack_L0
  try simp only [nth_zero, nth_succ]
  repeat (first | refine opP_i (by first | exact qa | exact qs | exact nilCheck_ptr | exact offPtr_ptr | exact bin_eql | exact bin_neq | exact bin_lss | exact bin_gtr | exact bin_leq | exact bin_geq | exact un_not | exact pick_true | exact pick_false | exact qy | exact qn | exact qi | exact qj) ?_ | refine opW_i (by first | exact lenSl_sl | exact min_w | exact max_w) ?_ | refine wy ?_ | refine wn ?_ | refine wIf_t rfl ?_ | refine wIf_f rfl ?_ | refine cond_yes rfl ?_ | refine cond_no rfl ?_)
  refine wIf_dec (fun h => ?_) (fun h => ?_)
  · have hyl : y < l.length := by omega
    have hs := stepT_one hr hk hyl
    have hl := hk.1
    rcases hv.2 with rfl | ⟨pv, cp, j, rfl, w, hj⟩
    · simp at h; omega
    have e : 0 + ((y : Nat) : Int).toNat * 40 = y * 40 := by rw [Int.toNat_natCast]; omega
    repeat (first | refine opP_i (by first | exact qa | exact qs | exact nilCheck_ptr | exact offPtr_ptr | exact bin_eql | exact bin_neq | exact bin_lss | exact bin_gtr | exact bin_leq | exact bin_geq | exact un_not | exact pick_true | exact pick_false | exact qy | exact qn | exact qi | exact qj) ?_ | refine opW_i (by first | exact lenSl_sl | exact min_w | exact max_w) ?_ | refine wy ?_ | refine wn ?_ | refine wIf_t rfl ?_ | refine wIf_f rfl ?_ | refine cond_yes rfl ?_ | refine cond_no rfl ?_)
    refine loadAgg_at hO j (at_l hj) (show _ = chC l[y] from ?_) rfl (by omega) ?_
    · rw [e]; exact chs_at l y hyl
    rw [zc58]
    refine new_at hO ?_
    clear hO
    intro p24 H hO
    refine storeAll_at hO ((G ++ [(p19, (⟨tbC (tApply t l).1, true⟩ : Blk)), (p21, ⟨tbC (stepT t (l.take y)).1, true⟩)]).length + 0) (at_r rfl) rfl rfl rfl ?_
    clear hO
    intro H hO
    replace hO : St H ((G ++ [(p19, ⟨tbC (tApply t l).1, true⟩), (p21, ⟨tbC (stepT t (l.take y)).1, true⟩)]) ++ [(p24, ⟨chC l[y], true⟩)]) := hO.set_r
    refine opP_i bin_eql ?_
    refine wIf_dec (fun h0 => ?_) (fun h0 => ?_)
    · rw [if_pos (by omega)] at hs
      refine loadAll_at hO (G.length + 1) (at_l (at_r rfl)) rfl (by omega) ?_
      refine loadAll_at hO ((G ++ [(p19, (⟨tbC (tApply t l).1, true⟩ : Blk)), (p21, ⟨tbC (stepT t (l.take y)).1, true⟩)]).length + 0) (at_r rfl) rfl (by omega) ?_
      refine newSl_at hO (bs1 _ _) ?_
      clear hO
      intro q H hO
      refine table_Apply_spec hO (RdC.own (own_one l[y] q)).app' (by simp) ?_
      clear hO
      intro H hO
      replace hO := hO.left.left
      rw [hs]
      refine opP_i ext0 ?_
      refine opP_i ext1 ?_
      refine storeAll_at hO (G.length + 1) (at_r rfl) rfl rfl rfl ?_
      clear hO
      intro H hO
      replace hO : St H (G ++ [(p19, ⟨tbC (tApply t l).1, true⟩), (p21, ⟨tbC (stepT t (l.take (y + 1))).1, true⟩)]) := hO.set_r
      repeat (first | refine opP_i (by first | exact qa | exact qs | exact nilCheck_ptr | exact offPtr_ptr | exact bin_eql | exact bin_neq | exact bin_lss | exact bin_gtr | exact bin_leq | exact bin_geq | exact un_not | exact pick_true | exact pick_false | exact qy | exact qn | exact qi | exact qj) ?_ | refine opW_i (by first | exact lenSl_sl | exact min_w | exact max_w) ?_ | refine wy ?_ | refine wn ?_ | refine wIf_t rfl ?_ | refine wIf_f rfl ?_ | refine cond_yes rfl ?_ | refine cond_no rfl ?_)
      exact ⟨_, by omega, y + 1, by omega, rfl, rfl, hO⟩
    · rw [if_neg (by omega)] at hs
      rw [hs] at hO ⊢
      repeat (first | refine opP_i (by first | exact qa | exact qs | exact nilCheck_ptr | exact offPtr_ptr | exact bin_eql | exact bin_neq | exact bin_lss | exact bin_gtr | exact bin_leq | exact bin_geq | exact un_not | exact pick_true | exact pick_false | exact qy | exact qn | exact qi | exact qj) ?_ | refine opW_i (by first | exact lenSl_sl | exact min_w | exact max_w) ?_ | refine wy ?_ | refine wn ?_ | refine wIf_t rfl ?_ | refine wIf_f rfl ?_ | refine cond_yes rfl ?_ | refine cond_no rfl ?_)
      exact ⟨_, by omega, y + 1, by omega, rfl, rfl, hO.left⟩
  · have e : y = l.length := by omega
    subst e
    rw [List.take_length, ← stepT_all hr hk] at hO ⊢
    exact hq _ hO
end T
set_option linter.unusedVariables false
set_option maxRecDepth 100000
namespace T
open Go Go.Ab
variable {H : Heap} {Γ G : List (Nat × Blk)} {K : Value → Heap → Prop} {v w x : Value} {xs ys bs : List Int} {j p : Nat} {e : Int} {l : List Ch} {t : Tb}
theorem neq37 {t t' : Tb} (h : tbC t = tbC t') (c : Bool) : (binC P .neq 37 c).f (agg (tbC t)) (agg (tbC t')) = some (.bool false) := by
  rw [h]
  rw [bin_neq_f f37 (by kernel_rfl) (by kernel_rfl) (fitT t') (fitT t'), eqCells_self (fitT t')]; rfl
theorem put_all (hO : St H G) (hv : RdC G v l) (hc : ∀ c ∈ l, CBy c) (hk : MadeB G K (lBy l)) : wCall P n_table_Put [v] H K := by
  by_cases hl : l.length ≤ 1000
  · exact table_Put_spec hO hv hl (fun c h => (hc c h).2) hk
  · refine Put_long hv (by omega) ?_
    rw [lBy_no (fun h => by have := h.1; omega)] at hk
    exact hk.none hO
set_option maxHeartbeats 8000000 in
theorem back_main (hO : St H Γ) (hv : RdC Γ v l) (hf : 0 ≤ t.flo) (ha : ∀ i, 0 ≤ t.a.dg i ∧ t.a.dg i ≤ 255) (hb : ∀ i, 0 ≤ t.b.dg i ∧ t.b.dg i ≤ 255) (hc : ∀ c ∈ l, CBy c) :
    wCall P n_law11_TableBack [agg (tbC t), v] H fun v _ => v = .bool true := by
  apply law11_TableBack_ok; unfold law11_TableBack
  refine new_at hO ?_
  intro p2 H hO
  replace hO : St H (Γ ++ [(p2, ⟨tbC t, true⟩)]) := hO
  refine law11_tableAlive_spec ?_
  repeat (first | refine opP_i (by first | exact qa | exact qs | exact nilCheck_ptr | exact offPtr_ptr | exact bin_eql | exact bin_neq | exact bin_lss | exact bin_gtr | exact bin_leq | exact bin_geq | exact un_not | exact pick_true | exact pick_false | exact qy | exact qn | exact qi | exact qj) ?_ | refine opW_i (by first | exact lenSl_sl | exact min_w | exact max_w) ?_ | refine wy ?_ | refine wn ?_ | refine wIf_t rfl ?_ | refine wIf_f rfl ?_ | refine cond_yes rfl ?_ | refine cond_no rfl ?_)
  refine loadAll_at hO (Γ.length + 0) (at_r rfl) rfl (by omega) ?_
  have hv := hv.app (Δ := [(p2, ⟨tbC t, true⟩)])
  have i2 : InG (Γ ++ [(p2, ⟨tbC t, true⟩)]) p2 (tbC t) := InG.last
  generalize (Γ ++ [(p2, (⟨tbC t, true⟩ : Blk))]) = G at hO hv i2
  have hver : ∀ c ∈ l, 0 ≤ c.ver := fun c h => (hc c h).2
  refine table_Bytes_spec hO hf ?_
  clear hO
  intro H v1 c1 hO h1
  have r1 := h1.rd.app' (Γ := G)
  replace hv := hv.app (Δ := outB v1 c1)
  replace i2 := i2.app (Δ := outB v1 c1)
  generalize G ++ outB v1 c1 = G at hO r1 hv i2
  clear h1
  refine put_all hO hv hc ?_
  clear hO
  intro H v3 c3 hO h3
  have r3 := h3.rd.app' (Γ := G)
  replace hv := hv.app (Δ := outB v3 c3)
  replace i2 := i2.app (Δ := outB v3 c3)
  replace r1 := r1.app (Δ := outB v3 c3)
  generalize G ++ outB v3 c3 = G at hO r1 r3 hv i2
  clear h3
  have bt := By_tBy ha hb
  have bl := By_lBy hc
  refine join_with (fun l' H' => H' = H ∧ ∃ b : Bool, l' = [v, ptr p2 0, .bool false, v1, v3, .bool b] ∧ (b = true → 30 < l.length ∨ ¬ TRight t ∨ ¬ TOk l) ∧ (b = false → l.length ≤ 30 ∧ TRight t ∧ TOk l)) ?_ ?_
  · refine opW_i (by rw [hv.1]) ?_
    repeat (first | refine opP_i (by first | exact qa | exact qs | exact nilCheck_ptr | exact offPtr_ptr | exact bin_eql | exact bin_neq | exact bin_lss | exact bin_gtr | exact bin_leq | exact bin_geq | exact un_not | exact pick_true | exact pick_false | exact qy | exact qn | exact qi | exact qj) ?_ | refine opW_i (by first | exact lenSl_sl | exact min_w | exact max_w) ?_ | refine wy ?_ | refine wn ?_ | refine wIf_t rfl ?_ | refine wIf_f rfl ?_ | refine cond_yes rfl ?_ | refine cond_no rfl ?_)
    refine wIf_dec (fun h => ?_) (fun h => ?_)
    · rw [decide_eq_true h]
      refine opP_i pick_true ?_
      refine opP_i pick_true ?_
      exact ⟨rfl, true, rfl, fun _ => .inl (by omega), fun h => (by cases h)⟩
    refine opW_i r1.lenSl ?_
    refine opP_i bin_eql ?_
    rw [decide_eq_false h]
    refine opP_i pick_false ?_
    refine wIf_dec (fun h => ?_) (fun h => ?_)
    · rw [decide_eq_true h]
      refine opP_i pick_true ?_
      exact ⟨rfl, true, rfl, fun _ => .inr (.inl (tBy_zero.1 (by omega))), fun h => (by cases h)⟩
    refine opW_i r3.lenSl ?_
    refine opP_i bin_eql ?_
    rw [decide_eq_false h]
    refine opP_i pick_false ?_
    refine ⟨rfl, _, rfl, fun h' => .inr (.inr (lBy_zero.1 (by have := of_decide_eq_true h'; omega))), fun h' => ?_⟩
    have h' := of_decide_eq_false h'
    refine ⟨by omega, ?_, ?_⟩
    · by_cases hr : TRight t
      · exact hr
      · exact absurd (by rw [tBy_zero.2 hr]; rfl) h
    · by_cases hr : TOk l
      · exact hr
      · exact absurd (by rw [lBy_zero.2 hr]; rfl) h'
  rintro _ _ ⟨rfl, b, rfl, hb1, hb2⟩
  try simp only [nth_zero, nth_succ]
  cases b with
  | true =>
    have hb1 := hb1 rfl
    refine wIf_t rfl ?_
    refine opW_i (by rw [hv.1]) ?_
    refine opP_i bin_gtr ?_
    refine wIf_dec (fun h => ?_) (fun h => ?_)
    · rw [decide_eq_true h]
      repeat (first | refine opP_i (by first | exact qa | exact qs | exact nilCheck_ptr | exact offPtr_ptr | exact bin_eql | exact bin_neq | exact bin_lss | exact bin_gtr | exact bin_leq | exact bin_geq | exact un_not | exact pick_true | exact pick_false | exact qy | exact qn | exact qi | exact qj) ?_ | refine opW_i (by first | exact lenSl_sl | exact min_w | exact max_w) ?_ | refine wy ?_ | refine wn ?_ | refine wIf_t rfl ?_ | refine wIf_f rfl ?_ | refine cond_yes rfl ?_ | refine cond_no rfl ?_)
      rfl
    rw [decide_eq_false h]
    obtain ⟨j2, i2⟩ := i2
    refine loadAll_at hO j2 i2 rfl (by omega) ?_
    refine table_Right_spec hO ?_
    intro H hO
    by_cases hr : TRight t
    · rw [decide_eq_true hr]
      repeat (first | refine opP_i (by first | exact qa | exact qs | exact nilCheck_ptr | exact offPtr_ptr | exact bin_eql | exact bin_neq | exact bin_lss | exact bin_gtr | exact bin_leq | exact bin_geq | exact un_not | exact pick_true | exact pick_false | exact qy | exact qn | exact qi | exact qj) ?_ | refine opW_i (by first | exact lenSl_sl | exact min_w | exact max_w) ?_ | refine wy ?_ | refine wn ?_ | refine wIf_t rfl ?_ | refine wIf_f rfl ?_ | refine cond_yes rfl ?_ | refine cond_no rfl ?_)
      refine opW_i r3.lenSl ?_
      repeat (first | refine opP_i (by first | exact qa | exact qs | exact nilCheck_ptr | exact offPtr_ptr | exact bin_eql | exact bin_neq | exact bin_lss | exact bin_gtr | exact bin_leq | exact bin_geq | exact un_not | exact pick_true | exact pick_false | exact qy | exact qn | exact qi | exact qj) ?_ | refine opW_i (by first | exact lenSl_sl | exact min_w | exact max_w) ?_ | refine wy ?_ | refine wn ?_ | refine wIf_t rfl ?_ | refine wIf_f rfl ?_ | refine cond_yes rfl ?_ | refine cond_no rfl ?_)
      have hn : ¬ TOk l := by
        rcases hb1 with h' | h' | h'
        · omega
        · exact absurd hr h'
        · exact h'
      rw [decide_eq_true (by rw [lBy_zero.2 hn]; rfl)]
    · rw [decide_eq_false hr]
      repeat (first | refine opP_i (by first | exact qa | exact qs | exact nilCheck_ptr | exact offPtr_ptr | exact bin_eql | exact bin_neq | exact bin_lss | exact bin_gtr | exact bin_leq | exact bin_geq | exact un_not | exact pick_true | exact pick_false | exact qy | exact qn | exact qi | exact qj) ?_ | refine opW_i (by first | exact lenSl_sl | exact min_w | exact max_w) ?_ | refine wy ?_ | refine wn ?_ | refine wIf_t rfl ?_ | refine wIf_f rfl ?_ | refine cond_yes rfl ?_ | refine cond_no rfl ?_)
      rfl
  | false =>
    obtain ⟨hl, hr, hk⟩ := hb2 rfl
    refine wIf_f rfl ?_
    obtain ⟨t', e1, e2⟩ := parse_bytes hr hf
    have ln := tBy_len hr
    have lb := lBy_len (l := l) (by omega)
    have nl : lBy l ≠ [] := fun h => lBy_zero.1 (by rw [h]; rfl) hk
    obtain ⟨l1, g1, g2, g3⟩ := get_put hk hver
    refine parse_step hO r1 (by omega) bt ?_
    clear hO
    rw [e1, show tbC ((t', (0 : Int)).1) = tbC t from e2]
    intro H p7 hO
    have i7 : InG (G ++ [(p7, ⟨tbC t, true⟩)]) p7 (tbC t) := InG.last
    replace hv := hv.app (Δ := [(p7, ⟨tbC t, true⟩)])
    replace i2 := i2.app (Δ := [(p7, ⟨tbC t, true⟩)])
    replace r1 := r1.app (Δ := [(p7, ⟨tbC t, true⟩)])
    replace r3 := r3.app (Δ := [(p7, ⟨tbC t, true⟩)])
    generalize G ++ [(p7, (⟨tbC t, true⟩ : Blk))] = G at hO r1 r3 hv i2 i7
    refine opW_i r1.lenSl ?_
    refine cut_step r1 (fun h => by rw [h] at ln; simp at ln) (by omega) ?_
    intro v2 r2
    refine parse_step hO r2 (by rw [List.length_take]; omega) (fun x hx => bt x (List.mem_of_mem_take hx)) ?_
    clear hO
    rw [parse_len (by rw [List.length_take]; omega)]
    intro H p9 hO
    have hO : St H (G ++ [(p9, ⟨tbC tbz, true⟩)]) := hO
    replace hO := hO.left
    refine copy_step hO r1 (by omega) ?_
    clear hO
    intro H v4 D hO r4
    replace hv := hv.app (Δ := D)
    replace i2 := i2.app (Δ := D)
    replace i7 := i7.app (Δ := D)
    replace r3 := r3.app (Δ := D)
    generalize G ++ D = G at hO r3 r4 hv i2 i7
    refine parse_step hO r4 (by rw [List.length_append, ln]; simp) (bt.app (fun x hx => by simp at hx; omega)) ?_
    clear hO
    rw [parse_len (by rw [List.length_append, ln]; simp)]
    intro H p11 hO
    have hO : St H (G ++ [(p11, ⟨tbC tbz, true⟩)]) := hO
    replace hO := hO.left
    refine table_Get_spec hO r3 (by omega) bl ?_
    clear hO
    rw [g1]
    intro H v5 hO h5
    have r5 := (RdC.own h5).app' (Γ := G)
    replace hv := hv.app (Δ := outB v5 (chs l1))
    replace i2 := i2.app (Δ := outB v5 (chs l1))
    replace i7 := i7.app (Δ := outB v5 (chs l1))
    replace r3 := r3.app (Δ := outB v5 (chs l1))
    generalize G ++ outB v5 (chs l1) = G at hO r3 r5 hv i2 i7
    clear h5
    have r5 : RdC G v5 l := by
      unfold RdC at r5 ⊢
      rw [g3, g2] at r5
      refine ⟨r5.1, ?_⟩
      rcases r5.2 with h | h
      · subst h; exact .inl (List.length_eq_zero_iff.1 g3.symm)
      · exact .inr h
    refine opP_i ext0 ?_
    refine opP_i ext1 ?_
    refine opW_i r3.lenSl ?_
    refine cut_step r3 nl (by omega) ?_
    intro v6 r6
    refine table_Get_spec hO r6 (by rw [List.length_take]; omega) (fun x hx => bl x (List.mem_of_mem_take hx)) ?_
    rw [get_less hk hver bl]
    clear hO
    intro H v7 hO h7
    replace hO := hO.left
    refine opP_i ext0 ?_
    refine opP_i ext1 ?_
    refine copy_step hO r3 (by omega) ?_
    clear hO
    intro H v8 D hO r8
    replace hv := hv.app (Δ := D)
    replace i2 := i2.app (Δ := D)
    replace i7 := i7.app (Δ := D)
    replace r5 := r5.app (Δ := D)
    generalize G ++ D = G at hO r5 r8 hv i2 i7
    refine table_Get_spec hO r8 (by rw [List.length_append]; simp; omega) (bl.app (fun x hx => by simp at hx; omega)) ?_
    rw [get_more hk hver]
    clear hO
    intro H v9 hO h9
    replace hO := hO.left
    refine opP_i ext0 ?_
    refine opP_i ext1 ?_
    obtain ⟨j2, i2⟩ := i2
    obtain ⟨j7, i7⟩ := i7
    refine join_with (fun l' H' => l' = [v, ptr p2 0, .bool false] ∧ H' = H) ?_ ?_
    · refine loadAll_at hO j7 i7 rfl (by omega) ?_
      refine loadAll_at hO j2 i2 rfl (by omega) ?_
      refine opP_i (neq37 rfl _) ?_
      refine wIf_f rfl ?_
      repeat (first | refine opP_i (by first | exact qa | exact qs | exact nilCheck_ptr | exact offPtr_ptr | exact bin_eql | exact bin_neq | exact bin_lss | exact bin_gtr | exact bin_leq | exact bin_geq | exact un_not | exact pick_true | exact pick_false | exact qy | exact qn | exact qi | exact qj) ?_ | refine opW_i (by first | exact lenSl_sl | exact min_w | exact max_w) ?_ | refine wy ?_ | refine wn ?_ | refine wIf_t rfl ?_ | refine wIf_f rfl ?_ | refine cond_yes rfl ?_ | refine cond_no rfl ?_)
      refine same_spec hO r5 hv (by omega) ?_
      repeat (first | refine opP_i (by first | exact qa | exact qs | exact nilCheck_ptr | exact offPtr_ptr | exact bin_eql | exact bin_neq | exact bin_lss | exact bin_gtr | exact bin_leq | exact bin_geq | exact un_not | exact pick_true | exact pick_false | exact qy | exact qn | exact qi | exact qj) ?_ | refine opW_i (by first | exact lenSl_sl | exact min_w | exact max_w) ?_ | refine wy ?_ | refine wn ?_ | refine wIf_t rfl ?_ | refine wIf_f rfl ?_ | refine cond_yes rfl ?_ | refine cond_no rfl ?_)
      exact ⟨rfl, rfl⟩
    rintro _ _ ⟨rfl, rfl⟩
    try simp only [nth_zero, nth_succ]
    refine loadAll_at hO j2 i2 rfl (by omega) ?_
    refine table_Apply_spec hO hv (by omega) ?_
    clear hO
    intro H hO
    refine opP_i ext0 ?_
    refine opP_i ext1 ?_
    rw [zc29]
    refine new_at hO ?_
    clear hO
    intro p19 H hO
    refine storeAll_at hO (G.length + 0) (at_r rfl) rfl rfl rfl ?_
    clear hO
    intro H hO
    replace hO : St H (G ++ [(p19, ⟨tbC (tApply t l).1, true⟩)]) := hO.set_r
    refine loadAll_at hO j2 (at_l i2) rfl (by omega) ?_
    refine new_at hO ?_
    clear hO
    intro p21 H hO
    rw [List.append_assoc] at hO
    refine storeAll_at hO (G.length + 1) (at_r rfl) rfl rfl rfl ?_
    clear hO
    intro H hO
    replace hO : St H (G ++ [(p19, ⟨tbC (tApply t l).1, true⟩), (p21, ⟨tbC t, true⟩)]) := hO.set_r
    refine opW_i (by rw [hv.1]) ?_
    refine back_loop hO hv hr hk ?_
    clear hO
    intro H hO
    refine cond_yes rfl ?_
    try simp only [nth_zero, nth_succ]
    refine loadAll_at hO (G.length + 0) (at_r rfl) rfl (by omega) ?_
    refine loadAll_at hO (G.length + 1) (at_r rfl) rfl (by omega) ?_
    refine opP_i (eq37_self _ _) ?_
    refine wIf_t rfl ?_
    refine opP_i bin_eql ?_
    refine opP_i pick_true ?_
    rw [decide_eq_true rfl]
/-! arguments -/
theorem shp_slotW {ts : List TypeId} {N : Nat} {c : List Value} {b : List (List Value)} (h : ShpL P (34 :: ts) N c b) : ∃ (s : Sl) (c' : List Value), c = slC s ++ c' ∧ (∀ i, 0 ≤ s.dg i ∧ s.dg i ≤ 255) ∧ ShpL P ts N c' b := by
  have h0 := shp_structH Go.Proofs.Try.underlying34 h
  have h0 : ShpL P (3 :: 3 :: 30 :: 3 :: 32 :: ts) N c b := h0
  obtain ⟨x1, c1, rfl, _, h1⟩ := shp_int1 (k := .i64) Go.Proofs.Try.underlying3 h0
  obtain ⟨x2, c2, rfl, _, h2⟩ := shp_int1 (k := .i64) Go.Proofs.Try.underlying3 h1
  obtain ⟨x3, c3, rfl, _, h3⟩ := shp_int1 (k := .u64) Go.Proofs.Try.underlying30 h2
  obtain ⟨x4, c4, rfl, _, h4⟩ := shp_int1 (k := .i64) Go.Proofs.Try.underlying3 h3
  have h5 := shp_arrayH Go.Proofs.Try.underlying32 h4
  have H : ∀ (n N : Nat) (c : List Value) (b : List (List Value)), ShpL P (List.replicate n 5 ++ ts) N c b → ∃ (xs : List Int) (c' : List Value), xs.length = n ∧ c = xs.map (Value.int .u8) ++ c' ∧ By xs ∧ ShpL P ts N c' b := by
    intro n
    induction n with
    | zero => intro N c b h; exact ⟨[], c, rfl, rfl, fun x hx => (by cases hx), h⟩
    | succ n ih =>
      intro N c b h
      obtain ⟨x, c', rfl, w, h1⟩ := shp_int1 (k := .u8) Go.Proofs.Try.underlying5 (show ShpL P (5 :: (List.replicate n 5 ++ ts)) N c b from h)
      obtain ⟨xs, c'', hl, rfl, hb, h2⟩ := ih N _ _ h1
      refine ⟨x :: xs, c'', by simp [hl], rfl, ?_, h2⟩
      intro y hy
      rcases List.mem_cons.1 hy with rfl | hy
      · exact wf_u8 w
      · exact hb y hy
  obtain ⟨xs, c', hl, rfl, hb, h6⟩ := H _ _ _ _ h5
  refine ⟨⟨x1, x2, x3, x4, fun i => xs.getD i 0⟩, c', ?_, ?_, h6⟩
  · rw [dgC_eq xs hl]; rfl
  · intro i
    show 0 ≤ xs.getD i 0 ∧ xs.getD i 0 ≤ 255
    rw [List.getD_eq_getElem?_getD]
    by_cases hi : i < xs.length
    · rw [List.getElem?_eq_getElem hi]; exact hb _ (List.getElem_mem hi)
    · rw [List.getElem?_eq_none (by omega)]; decide
theorem arg_tableB {ts : List TypeId} {N : Nat} {av : List Value} {b : List (List Value)} (h : ArgS P (37 :: ts) N av b) : ∃ (t : Tb) (vs : List Value), av = agg (tbC t) :: vs ∧ 0 ≤ t.flo ∧ (∀ i, 0 ≤ t.a.dg i ∧ t.a.dg i ≤ 255) ∧ (∀ i, 0 ≤ t.b.dg i ∧ t.b.dg i ≤ 255) ∧ ArgS P ts N vs b := by
  obtain ⟨cs, vs, b1, b2, rfl, rfl, h1, h2⟩ := arg_agg h (.inl ⟨_, Go.Proofs.Try.underlying37⟩)
  have h0 := shp_structH Go.Proofs.Try.underlying37 h1
  have h0 : ShpL P (35 :: 3 :: 3 :: 30 :: []) N cs b1 := h0
  have h1 := shp_arrayH Go.Proofs.Try.underlying35 h0
  have h1 : ShpL P (34 :: 34 :: 3 :: 3 :: 30 :: []) N cs b1 := h1
  obtain ⟨a, c1, e1, ha, h2'⟩ := shp_slotW h1
  obtain ⟨s, c2, e2, hb, h3⟩ := shp_slotW h2'
  obtain ⟨x1, c3, e3, _, h4⟩ := shp_int1 (k := .i64) Go.Proofs.Try.underlying3 h3
  obtain ⟨x2, c4, e4, _, h5⟩ := shp_int1 (k := .i64) Go.Proofs.Try.underlying3 h4
  obtain ⟨x3, c5, e5, w, h6⟩ := shp_int1 (k := .u64) Go.Proofs.Try.underlying30 h5
  obtain ⟨rfl, rfl⟩ := shp_nil h6
  refine ⟨⟨a, s, x1, x2, x3⟩, vs, ?_, (wf_u64 w).1, ha, hb, by simpa using h2⟩
  rw [e1, e2, e3, e4, e5]; rfl
theorem shp_chB : ∀ (n N : Nat) (c : List Value) (b : List (List Value)), ShpL P (List.replicate n 41) N c b → b = [] ∧ ∃ l : List Ch, c = chs l ∧ l.length = n ∧ ∀ c ∈ l, CBy c
  | 0, N, c, b, h => by cases h; exact ⟨rfl, [], rfl, rfl, by simp⟩
  | n + 1, N, c, b, h => by
    have h : ShpL P (41 :: List.replicate n 41) N c b := h
    have h0 := shp_structH Go.Proofs.Try.underlying41 h
    have h0 : ShpL P (3 :: 3 :: 3 :: 34 :: 30 :: List.replicate n 41) N c b := h0
    obtain ⟨x1, c1, e1, _, h1⟩ := shp_int1 (k := .i64) Go.Proofs.Try.underlying3 h0
    obtain ⟨x2, c2, e2, _, h2⟩ := shp_int1 (k := .i64) Go.Proofs.Try.underlying3 h1
    obtain ⟨x3, c3, e3, _, h3⟩ := shp_int1 (k := .i64) Go.Proofs.Try.underlying3 h2
    obtain ⟨s, c4, e4, hs, h4⟩ := shp_slotW h3
    obtain ⟨x5, c5, e5, w, h5⟩ := shp_int1 (k := .u64) Go.Proofs.Try.underlying30 h4
    obtain ⟨hb, l, e6, hl, hw⟩ := shp_chB n _ _ _ h5
    refine ⟨hb, ⟨x1, x2, x3, s, x5⟩ :: l, ?_, by simp [hl], ?_⟩
    · rw [e1, e2, e3, e4, e5, e6]
      show _ = chC ⟨x1, x2, x3, s, x5⟩ ++ chs l
      simp [chC]
    · intro c hc
      rcases List.mem_cons.1 hc with rfl | hc
      · exact ⟨hs, (wf_u64 w).1⟩
      · exact hw c hc
theorem arg_chsB {ts : List TypeId} {N : Nat} {av : List Value} {b : List (List Value)} (h : ArgS P (43 :: ts) N av b) :
    ∃ v vs b1 b2 l, av = v :: vs ∧ b = b1 ++ b2 ∧ RdC (argG N b1) v l ∧ (∀ c ∈ l, CBy c) ∧ ArgS P ts (N + b1.length) vs b2 := by
  have hu : P.underlying 43 = some (.slice 41) := by kernel_rfl
  obtain ⟨v, vs, b1, b2, e, eb, h1, h2⟩ := arg_one h (by rw [hu]; simp) (by rw [hu]; simp)
  rcases shp_sl hu h1 with ⟨c', e1, h3⟩ | ⟨len, cells, c', bs, b', e1, eb1, hm, hl, h3, h4⟩
  · cases e1
    exact ⟨_, vs, b1, b2, [], e, eb, ⟨rfl, .inl rfl⟩, by simp, h2⟩
  · cases e1
    obtain ⟨hb, l, rfl, rfl, hw⟩ := shp_chB _ _ _ _ h3
    subst hb
    subst eb1
    exact ⟨_, vs, _, b2, l, e, eb, ⟨rfl, .inr ⟨N, _, 0, rfl, _, rfl⟩⟩, hw, h2⟩
end T
