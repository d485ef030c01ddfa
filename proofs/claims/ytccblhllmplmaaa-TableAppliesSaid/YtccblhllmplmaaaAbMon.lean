import Derived.Test.YtccblhllmplmaaaAbOrc
namespace Go.Ab
open Go
set_option linter.unusedVariables false

/-! more fuel, the same outcome -/
section
variable {P : Program} {s1 s2 : Self}
abbrev Le (s1 s2 : Self) : Prop := ∀ t o, s1 t = some o → s2 t = some o

theorem callOut_le (h : Le s1 s2) {x : Option Tgt} {H : Heap} {r : Value × Heap} (hr : callOut s1 x H = some r) : callOut s2 x H = some r := by
  obtain ⟨v, H'⟩ := r
  obtain ⟨t, ex, rfl, h1⟩ := callOut_some hr
  unfold callOut
  simp only [h _ _ h1]
theorem stepC_le (h : Le s1 s2) {op : Op} {T : List Value} {H : Heap} {r : Value × Heap} (hr : (stepC P op).f s1 T H = some r) : (stepC P op).f s2 T H = some r := by
  unfold stepC at hr ⊢
  split
  · rename_i hok
    rw [hok] at hr
    simp only at hr
    unfold stepC0 at hr ⊢
    split
    · rename_i c
      simp only at hr
      split
      · rename_i b hb; rw [hb] at hr; exact hr
      · rename_i f hf; rw [hf] at hr; exact callOut_le h hr
      · rename_i ro name hf; rw [hf] at hr; exact callOut_le h hr
    · rename_i hne
      split at hr
      · exact absurd rfl (hne _)
      · exact hr
  · rename_i hok; rw [hok] at hr; cases hr
theorem opsA_le (h : Le s1 s2) (all : List Oper) : ∀ (l : List Oper) (T : List Value) (H : Heap) (o : Out), opsA P s1 all l T H = some o → opsA P s2 all l T H = some o
  | [], T, H, o, hr => hr
  | x :: l, T, H, o, hr => by
    have hr : opF1 P s1 x ((wantedC all x.guard).f T) T H (opsA P s1 all l) = some o := hr
    show opF1 P s2 x ((wantedC all x.guard).f T) T H (opsA P s2 all l) = some o
    unfold opF1 at hr ⊢
    split
    · rename_i hw
      rw [hw] at hr
      simp only at hr
      split at hr
      · rename_i v H1 hs
        rw [stepC_le h hs]
        exact opsA_le h all l _ _ _ hr
      · cases hr
    · rename_i hw; rw [hw] at hr; exact opsA_le h all l _ _ _ hr
theorem opsD_le (h : Le s1 s2) (all : List Oper) : ∀ (l : List (Oper × Plan)) (T : List Value) (H : Heap) (rs : List Rec) (o : Out), opsD P s1 all l T H rs = some o → opsD P s2 all l T H rs = some o
  | [], T, H, rs, o, hr => hr
  | (x, p) :: l, T, H, rs, o, hr => by
    have hr : opF2 P s1 x p ((wantedC all x.guard).f T) T H rs (opsD P s1 all l) = some o := hr
    show opF2 P s2 x p ((wantedC all x.guard).f T) T H rs (opsD P s2 all l) = some o
    unfold opF2 at hr ⊢
    split
    · rename_i hw
      rw [hw] at hr
      simp only at hr
      split at hr
      · rename_i v H1 hs
        have hs : (stepC P x.op).f s1 T H = some (v, H1) := hs
        have : stepD P s2 x p T H = some (v, H1) := stepC_le h hs
        rw [this]
        simp only
        split at hr
        · exact opsD_le h all l _ _ _ _ hr
        · cases hr
      · cases hr
    · rename_i hw; rw [hw] at hr; exact opsD_le h all l _ _ _ _ hr
theorem drawA_le (h : Le s1 s2) {all : List Oper} {T : List Value} {H : Heap} {o : Out} (hr : drawA P s1 all T H = some o) : drawA P s2 all T H = some o := by
  unfold drawA at hr ⊢
  split at hr
  · exact opsD_le h _ _ _ _ _ _ hr
  · cases hr
theorem rangeA_le (h : Le s1 s2) {g : Value} {ps : List Tmp} {asg body : Code} {T : List Value} {H : Heap} {o : Out} (hr : rangeA s1 g ps asg body T H = some o) : rangeA s2 g ps asg body T H = some o := by
  unfold rangeA at hr ⊢
  split at hr
  · rename_i t ht
    split at hr
    · rename_i f args
      split at hr
      · rename_i ex T1 H1 hm
        rw [h _ _ hm]
        exact hr
      · cases hr
    · cases hr
  · cases hr
theorem codeC_le (h : Le s1 s2) (top : Bool) : ∀ (c : Code) (T : List Value) (H : Heap) (o : Out), (codeC P top c).f s1 T H = some o → (codeC P top c).f s2 T H = some o := by
  intro c
  induction c with
  | skip => intro T H o hr; exact hr
  | region id ops d =>
    intro T H o hr
    cases d with
    | true => exact drawA_le h (all := ops.toList) hr
    | false => exact opsA_le h _ _ _ _ _ hr
  | seq x y ix iy =>
    intro T H o hr
    have hr : thenA ((codeC P top x).f s1 T H) (fun T H => (codeC P top y).f s1 T H) = some o := hr
    show thenA ((codeC P top x).f s2 T H) (fun T H => (codeC P top y).f s2 T H) = some o
    obtain ⟨o1, h1, h2⟩ := thenA_some hr
    rw [ix _ _ _ h1]
    obtain ⟨e, T1, H1⟩ := o1
    cases e with
    | normal =>
      rcases h2 with ⟨_, h2⟩ | ⟨h2, _⟩
      · exact iy _ _ _ h2
      · exact absurd rfl h2
    | exit id => rcases h2 with ⟨h2, _⟩ | ⟨_, rfl⟩ <;> first | cases h2 | rfl
    | ret => rcases h2 with ⟨h2, _⟩ | ⟨_, rfl⟩ <;> first | cases h2 | rfl
  | cond c x y ix iy =>
    intro T H o hr
    have hr : ifA s1 ((evC c).g T) (codeC P top x) (codeC P top y) T H = some o := hr
    show ifA s2 ((evC c).g T) (codeC P top x) (codeC P top y) T H = some o
    unfold ifA at hr ⊢
    split at hr
    · split at hr
      · exact ix _ _ _ hr
      · exact iy _ _ _ hr
    · cases hr
  | block id x ix =>
    intro T H o hr
    have hr : blockA id ((codeC P top x).f s1 T H) = some o := hr
    show blockA id ((codeC P top x).f s2 T H) = some o
    obtain ⟨o1, h1, _⟩ := blockA_some hr
    rw [ix _ _ _ h1]; rw [h1] at hr; exact hr
  | loop x _ => intro T H o hr; exact h (.loop top x T H) o hr
  | rangeFunc g ps asg body _ _ =>
    intro T H o hr
    cases top with
    | false => cases hr
    | true => exact rangeA_le h (g := (evT g).g T) (ps := ps.toList) (asg := asg) (body := body) hr
  | exit id => intro T H o hr; exact hr
  | label l => intro T H o hr; exact hr
  | ret => intro T H o hr; exact hr
  | _ => intros; rename_i hr; cases hr
theorem normA_le {o1 o2 : Option Out} {k1 k2 : List Value → Heap → Option Out} {o : Out} (h1 : ∀ o, o1 = some o → o2 = some o) (h2 : ∀ T H o, k1 T H = some o → k2 T H = some o) (hr : normA o1 k1 = some o) : normA o2 k2 = some o := by
  obtain ⟨x, g1, g2, g3⟩ := normA_some hr
  rw [h1 _ g1]
  obtain ⟨e, T, H⟩ := x
  cases g2
  exact h2 _ _ _ g3
theorem step_le (h : Le s1 s2) : Le (step P s1) (step P s2) := by
  intro t o hr
  cases t with
  | loop top c T H =>
    have hr : thenA ((codeC P top c).f s1 T H) (fun T H => s1 (.loop top c T H)) = some o := hr
    show thenA ((codeC P top c).f s2 T H) (fun T H => s2 (.loop top c T H)) = some o
    obtain ⟨o1, h1, h2⟩ := thenA_some hr
    rw [codeC_le h top _ _ _ _ h1]
    obtain ⟨e, T1, H1⟩ := o1
    cases e with
    | normal =>
      rcases h2 with ⟨_, h2⟩ | ⟨h2, _⟩
      · exact h _ _ h2
      · exact absurd rfl h2
    | exit id => rcases h2 with ⟨h2, _⟩ | ⟨_, rfl⟩ <;> first | cases h2 | rfl
    | ret => rcases h2 with ⟨h2, _⟩ | ⟨_, rfl⟩ <;> first | cases h2 | rfl
  | call f args H =>
    have hr : (fnC P f).f s1 args H = some o := hr
    show (fnC P f).f s2 args H = some o
    unfold fnC at hr ⊢
    split at hr
    · rename_i fn hf
      split at hr
      · rename_i c hc
        simp only [hf, hc]
        simp only at hr
        unfold endA at hr ⊢
        split at hr
        · rename_i e T1 H1 h1
          rw [codeC_le h true _ _ _ _ h1]
          exact hr
        · cases hr
      · cases hr
    · cases hr
  | round l args H =>
    have hr : roundA P s1 l args H = some o := hr
    show roundA P s2 l args H = some o
    unfold roundA at hr ⊢
    split at hr
    · rename_i r hl
      split at hr
      · rename_i hn
        refine normA_le (fun _ => codeC_le h false _ _ _ _) (fun T1 H1 o hk => ?_) hr
        split at hk
        · rename_i H2 hb
          unfold endR at hk ⊢
          split at hk
          · rename_i e T3 H3 h3
            simp only [codeC_le h false _ _ _ _ h3]
            exact hk
          · cases hk
        · cases hk
      · cases hr
    · cases hr
theorem stepO_le [Orc] (h : Le s1 s2) : Le (stepO P s1) (stepO P s2) := by
  intro t o hr
  cases t with
  | loop top c T H => exact step_le h (.loop top c T H) o hr
  | round l args H => exact step_le h (.round l args H) o hr
  | call f args H =>
    have hr : (match Orc.tab f args H with | some v => some ⟨.ret, [v], H⟩ | none => step P s1 (.call f args H)) = some o := hr
    show (match Orc.tab f args H with | some v => some ⟨.ret, [v], H⟩ | none => step P s2 (.call f args H)) = some o
    split at hr
    · exact hr
    · exact step_le h (.call f args H) o hr
theorem run_succ [Orc] (n : Nat) : Le (runO P n) (runO P (n + 1)) := by
  induction n with
  | zero => intro t o h; cases h
  | succ n ih => exact stepO_le ih
theorem run_le [Orc] {n m : Nat} (h : n ≤ m) : Le (runO P n) (runO P m) := by
  induction h with
  | refl => intro t o h; exact h
  | step _ ih => intro t o h; exact run_succ _ _ _ (ih t o h)
end
end Go.Ab
