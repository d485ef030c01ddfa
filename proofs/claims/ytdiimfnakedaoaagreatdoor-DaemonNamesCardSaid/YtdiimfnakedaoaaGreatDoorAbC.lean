/- texts of the proof, one behind the other -/
import Derived.Deep.Slices
import Derived.Carry
import Derived.Test.YtdiimfnakedaoaaGreatDoorAbB
set_option linter.unusedSimpArgs false
set_option linter.unusedSectionVars false
namespace Go.Ab
open Go
variable {H P T all args asg body c f g k1 k2 o o1 o2 op p ps r s1 s2 x}
local instance : Base := ⟨fun _ => none, 0⟩
set_option linter.unusedVariables false
section
abbrev Le (s1 s2 : Self) : Prop := ∀ t o, s1 t = some o → s2 t = some o
theorem callOut_le (h : Le s1 s2) (hr : callOut s1 x H = some r) : callOut s2 x H = some r := by
  grind[callOut_some,callOut]
theorem stepC_le (h : Le s1 s2) (hr : (stepC P op).f s1 T H = some r) : (stepC P op).f s2 T H = some r := by
  unfold stepC at hr ⊢
  split
  · rename_i hok
    rw [hok] at hr
    unfold stepC0 at hr ⊢
    grind[callOut_le]
  simp_all
theorem opsA_le (h : Le s1 s2) (all : List Oper) : ∀ (l : List Oper) (T : List Value) (H : Heap) (o : Out), opsA P s1 all l T H = some o → opsA P s2 all l T H = some o
  | [], T, H, o, hr => hr
  | x :: l, T, H, o, hr => by
    have hr : opF1 P s1 x ((wantedC all x.guard).f T) T H (opsA P s1 all l) = some o := hr
    show opF1 P s2 x ((wantedC all x.guard).f T) T H (opsA P s2 all l) = some o
    unfold opF1 at hr ⊢
    split
    · rename_i hw
      rw [hw] at hr
      simp only at hr
      split at hr
      · rename_i v H1 hs
        rw [stepC_le h hs]
        exact opsA_le h all l _ _ _ hr
      · cases hr
    · rename_i hw; rw [hw] at hr; exact opsA_le h all l _ _ _ hr
theorem stepD_le (h : Le s1 s2) (hr : stepD P s1 x p T H = some r) : stepD P s2 x p T H = some r := by
  unfold stepD at hr ⊢
  split at hr
  · cases h1 : (stepC P x.op).f s1 T (bare H) with
    | none => rw [h1] at hr; cases hr
    | some y => grind[stepC_le]
  grind[stepC_le]
theorem opsD_le (h : Le s1 s2) (all : List Oper) : ∀ (l : List (Oper × Plan)) (T : List Value) (H : Heap) (rs : List Rec) (o : Out), opsD P s1 all l T H rs = some o → opsD P s2 all l T H rs = some o
  | [], T, H, rs, o, hr => hr
  | (x, p) :: l, T, H, rs, o, hr => by
    have hr : opF2 P s1 x p ((wantedC all x.guard).f T) T H rs (opsD P s1 all l) = some o := hr
    show opF2 P s2 x p ((wantedC all x.guard).f T) T H rs (opsD P s2 all l) = some o
    unfold opF2 at hr ⊢
    split
    · rename_i hw
      rw [hw] at hr
      simp only at hr
      split at hr
      · rename_i v H1 hs
        have : stepD P s2 x p T H = some (v, H1) := stepD_le h hs
        rw [this]
        simp only
        split at hr
        · exact opsD_le h all l _ _ _ _ hr
        · cases hr
      · cases hr
    · rename_i hw; rw [hw] at hr; exact opsD_le h all l _ _ _ _ hr
theorem drawA_le (h : Le s1 s2) (hr : drawA P s1 all T H = some o) : drawA P s2 all T H = some o := by
  grind[drawA,opsD_le]
theorem rangeA_le (h : Le s1 s2) (hr : rangeA s1 g ps asg body T H = some o) : rangeA s2 g ps asg body T H = some o := by
  grind[rangeA]
theorem codeC_le (h : Le s1 s2) (top : Bool) : ∀ (c : Code) (T : List Value) (H : Heap) (o : Out), (codeC P top c).f s1 T H = some o → (codeC P top c).f s2 T H = some o := by
  intro c
  induction c with
  | skip => intro T H o hr; exact hr
  | region id ops d =>
    intro T H o hr
    cases d with
    | true => exact drawA_le h hr
    | false => exact opsA_le h _ _ _ _ _ hr
  | seq x y ix iy =>
    intro T H o hr
    show thenA ((codeC P top x).f s2 T H) (fun T H => (codeC P top y).f s2 T H) = some o
    obtain ⟨o1, h1, h2⟩ := thenA_some hr
    rw [ix _ _ _ h1]
    obtain ⟨e, T1, H1⟩ := o1
    cases e with
    | normal =>
      rcases h2 with ⟨_, h2⟩ | ⟨h2, _⟩
      · exact iy _ _ _ h2
      simp_all
    | exit id => rcases h2 with ⟨h2, _⟩ | ⟨_, rfl⟩ <;> first | cases h2 | rfl
    | ret => rcases h2 with ⟨h2, _⟩ | ⟨_, rfl⟩ <;> first | cases h2 | rfl
  | cond c x y ix iy =>
    intro T H o hr
    have hr : ifA s1 ((evC c).g T) (codeC P top x) (codeC P top y) T H = some o := hr
    show ifA s2 ((evC c).g T) (codeC P top x) (codeC P top y) T H = some o
    unfold ifA at hr ⊢
    grind
  | block id x ix =>
    grind[codeC,blockA_some]
  | loop x _ => intro T H o hr; exact h (.loop top x T H) o hr
  | rangeFunc g ps asg body _ _ =>
    intro T H o hr
    cases top with
    | false => cases hr
    | true => exact rangeA_le h hr
  | exit id => intro T H o hr; exact hr
  | label l => intro T H o hr; exact hr
  | ret => intro T H o hr; exact hr
  | _ => intros; rename_i hr; cases hr
theorem normA_le (h1 : ∀ o, o1 = some o → o2 = some o) (h2 : ∀ T H o, k1 T H = some o → k2 T H = some o) (hr : normA o1 k1 = some o) : normA o2 k2 = some o := by
  obtain ⟨x, g1, g2, g3⟩ := normA_some hr
  rw [h1 _ g1]
  obtain ⟨e, T, H⟩ := x
  cases g2
  exact h2 _ _ _ g3
theorem step_le (h : Le s1 s2) : Le (step P s1) (step P s2) := by
  intro t o hr
  cases t with
  | loop top c T H =>
    show thenA ((codeC P top c).f s2 T H) (fun T H => s2 (.loop top c T H)) = some o
    obtain ⟨o1, h1, h2⟩ := thenA_some hr
    rw [codeC_le h top _ _ _ _ h1]
    obtain ⟨e, T1, H1⟩ := o1
    cases e with
    | normal =>
      rcases h2 with ⟨_, h2⟩ | ⟨h2, _⟩
      · exact h _ _ h2
      simp_all
    | exit id => rcases h2 with ⟨h2, _⟩ | ⟨_, rfl⟩ <;> first | cases h2 | rfl
    | ret => rcases h2 with ⟨h2, _⟩ | ⟨_, rfl⟩ <;> first | cases h2 | rfl
  | call f args H =>
    have hr : (fnC P f).f s1 args H = some o := hr
    show (fnC P f).f s2 args H = some o
    unfold fnC at hr ⊢
    split at hr
    · split at hr
      · simp only []
        unfold endA at hr ⊢
        grind[codeC_le]
      omega
    omega
  | round l args H =>
    have hr : roundA P s1 l args H = some o := hr
    show roundA P s2 l args H = some o
    unfold roundA at hr ⊢
    split at hr
    · split at hr
      · refine normA_le (fun _ => codeC_le h false _ _ _ _) (fun T1 H1 o hk => ?_) hr
        split at hk
        · unfold endR at hk ⊢
          grind[codeC_le]
        omega
      omega
    omega
theorem fnW_le (h : Le s1 s2) (hr : fnW P f c s1 args H = some o) : fnW P f c s2 args H = some o := by
  unfold fnW at hr ⊢
  split at hr
  · rename_i fn _
    cases hle : Nat.ble (lenN args) (fn.params.size + fn.nfree) with
    | false => simp_all
    | true =>
    unfold endA at hr ⊢
    grind[codeC_le]
  omega
theorem stepO_le [Orc] (h : Le s1 s2) : Le (stepO P s1) (stepO P s2) := by
  intro t o hr
  cases t with
  | loop top c T H => exact step_le h (.loop top c T H) o hr
  | round l args H => exact step_le h (.round l args H) o hr
  | call f args H =>
    have hr : (match Orc.tab f args H with | some v => some ⟨.ret, [v], H⟩ | none => match Orc.bod f with | some c => fnW P f c s1 args H | none => step P s1 (.call f args H)) = some o := hr
    show (match Orc.tab f args H with | some v => some ⟨.ret, [v], H⟩ | none => match Orc.bod f with | some c => fnW P f c s2 args H | none => step P s2 (.call f args H)) = some o
    grind[fnW_le,step_le]
theorem run_succ [Orc] (n : Nat) : Le (runO P n) (runO P (n + 1)) := by
  induction n with
  | zero => intro t o h; cases h
  | succ n ih => exact stepO_le ih
theorem run_le {P : Program} {n : Nat} {m : Nat} [Orc] (h : n ≤ m) : Le (runO P n) (runO P m) := by
  induction h with
  | refl => grind
  | step _ ih => grind[run_succ]
end
end Go.Ab
namespace Go.Ab
open Go
set_option linter.unusedVariables false
set_option linter.unusedSectionVars false
noncomputable section
abbrev Env := Nat → Value
def put (ρ : Env) (d : Option Tmp) (v : Value) : Env := match d with
  | some d => fun i => cond (Nat.beq i d) v (ρ i)
  | none => ρ
def ev (x : Operand) (ρ : Env) : Value := match x with
  | .tmp t => ρ t
  | .const v => v
  | .global g => .pointer (some ⟨g, 0, none⟩)
  | .func f => .func (.func f) #[] #[]
def evsE (l : List Operand) (ρ : Env) : List Value := List.rec (motive := fun _ => List Value) [] (fun o _ ih => ev o ρ :: ih) l
def evPartsE (l : List (Nat × Operand)) (ρ : Env) : List (Nat × Value) := List.rec (motive := fun _ => List (Nat × Value)) [] (fun p _ ih => (p.1, ev p.2 ρ) :: ih) l
def evOE (o : Option Operand) (ρ : Env) : Option Value := match o with
  | none => none
  | some o => some (ev o ρ)
def mapN (ρ : Env) (l : List Nat) : List Value := List.rec (motive := fun _ => List Value) [] (fun i _ ih => ρ i :: ih) l
def envFrom (l : List Value) (keys : List Nat) : Nat → Nat → Value :=
  List.rec (motive := fun _ => Nat → Nat → Value) (fun _ _ => undef) (fun k _ ih p i => cond (Nat.beq i k) (nth l p) (ih (Nat.succ p) i)) keys
def envOf (keys : List Nat) (l : List Value) : Env := fun i => envFrom l keys 0 i
def rdO (x : Operand) : Nat := match x with | .tmp t => Nat.shiftLeft 1 t | _ => 0
def rdL (l : List Operand) : Nat := List.rec (motive := fun _ => Nat) 0 (fun x _ ih => Nat.lor (rdO x) ih) l
def clr (m d : Nat) : Nat := cond (bitB m d) (Nat.xor m (Nat.shiftLeft 1 d)) m
def clrO (m : Nat) (d : Option Tmp) : Nat := match d with | some d => clr m d | none => m
def grdSlot (all : List Oper) (g : Option (Nat × Bool)) : Option (Option Nat × Bool) := match g with
  | none => none
  | some (j, want) => some ((atN all j).bind (·.dst), want)
def rdG (all : List Oper) (g : Option (Nat × Bool)) : Nat := match grdSlot all g with
  | some (some d, _) => Nat.shiftLeft 1 d
  | _ => 0
def liveOps (all l : List Oper) (N : Nat) : Nat := List.rec (motive := fun _ => Nat) N (fun o _ ih => Nat.lor (clrO ih o.dst) (Nat.lor (rdL o.op.operands.toList) (rdG all o.guard))) l
def live (c : Code) : Nat → Nat → Nat :=
  Code.rec (motive := fun _ => Nat → Nat → Nat)
    (fun N _ => N)
    (fun _ ops d N _ => liveOps ops.toList (match d with | true => ordO ops.toList | false => ops.toList) N)
    (fun _ _ a b N X => a (b N X) X)
    (fun c _ _ a b N X => Nat.lor (rdO c) (Nat.lor (a N X) (b N X)))
    (fun _ _ a N X => a N (Nat.lor N X))
    (fun _ a _ X => a 0 X)
    (fun g _ _ _ a b N X => Nat.lor (rdO g) (Nat.lor (Nat.lor N X) (a (b 0 0) 0)))
    (fun _ _ X => X)
    (fun _ _ _ _ => 0)
    (fun _ N _ => N)
    (fun _ _ _ => 0)
    (fun _ X => X)
    (fun _ _ _ => 0) c
def bitsFrom (m n : Nat) : List Nat := Nat.rec (motive := fun _ => List Nat → List Nat) (fun acc => acc) (fun k ih acc => ih (cond (bitB m k) (k :: acc) acc)) n []
def bits (n m : Nat) : List Nat := bitsFrom m n
def cntExit (id : Nat) (c : Code) : Nat :=
  Code.rec (motive := fun _ => Nat) 0 (fun _ _ _ => 0) (fun _ _ a b => a + b) (fun _ _ _ a b => a + b) (fun _ _ a => a) (fun _ a => a) (fun _ _ _ _ _ _ => 0) (fun i => cond (Nat.beq i id) 1 0) (fun _ _ => 0) (fun _ => 0) (fun _ => 0) 0 (fun _ => 0) c
def anyGuard (l : List Oper) : Bool := not (allN (fun o => match o.guard with | none => true | some _ => false) l)
def wgt (c : Code) : Nat :=
  Code.rec (motive := fun _ => Nat) 0 (fun _ ops _ => lenN ops.toList) (fun _ _ a b => a + b) (fun _ _ _ a b => a + b + 4) (fun _ _ a => a) (fun _ _ => 9) (fun _ _ _ _ _ _ => 9) (fun _ => 0) (fun _ _ => 0) (fun _ => 0) (fun _ => 0) 0 (fun _ => 0) c
def ends (c : Code) : Nat :=
  Code.rec (motive := fun _ => Nat) 1 (fun _ ops _ => cond (anyGuard ops.toList) 2 1) (fun _ b ea eb => cond (Nat.ble 2 ea && Nat.ble 6 (wgt b)) eb (ea * eb)) (fun _ _ _ a b => a + b) (fun id b a => a + cntExit id b) (fun _ _ => 0) (fun _ _ _ _ _ _ => 1) (fun _ => 0) (fun _ _ => 0) (fun _ => 1) (fun _ => 0) 0 (fun _ => 0) c
def joinB (a b : Code) : Bool := Nat.ble 2 (ends a) && Nat.ble 6 (wgt b)
def opW (r : R) (K : Value → Heap → Prop) : Prop := ∃ v H', r = some (v, H') ∧ K v H'
def opP (r : Option Value) (K : Value → Prop) : Prop := ∃ v, r = some v ∧ K v
def wIf (v : Value) (A B : Prop) : Prop := (v = .bool true → A) ∧ (v = .bool false → B) ∧ ∃ b, v = .bool b
def Heap.push (H : Heap) (cs : List Value) : Heap := ⟨H.t.set H.next (some ⟨cs, true⟩), Nat.succ H.next, H.floor, H.lps⟩
def wNew (cs : List Value) (H : Heap) (K : Value → Heap → Prop) : Prop := K (.pointer (some ⟨H.next, 0, none⟩)) (H.push cs)
def wJoin (A : (List Value → Heap → Prop) → Prop) (B : List Value → Heap → Prop) : Prop := ∃ J, A J ∧ ∀ l H, J l H → B l H
def pickA (c a b : Value) : Option Value := match c with | .bool t => (match t with | true => some a | false => some b) | _ => none
def extA (i : Nat) (x : Value) : Option Value := match x with | .tuple vs => atN vs.toList i | _ => none
def cSame (s : Nat → Bool) (ids : List Nat) : Prop := allN s ids = true
def cApart (a b : List Nat) : Prop := apartIds a b = true
def cOut (a : List Nat) (lo hi : Nat) : Prop := outside a lo hi = true
def cvInt (k : IntKind) (x : Value) (H : Heap) : R := match x with | .int _ n => some (.int k (wrapA k n), H) | _ => none
def lenSl (x : Value) (H : Heap) : R := match x with | .slice _ n _ => some (.int .i64 n, H) | _ => none
def zc (P : Program) (t : TypeId) : List Value := match zeroB P t with | some z => cellsL z | none => []
section
variable [Orc] (P : Program)
def wT (t : Task) (K : Value → Heap → Prop) : Prop := ∃ n ex v H', runO P n t = some ⟨ex, [v], H'⟩ ∧ K v H'
def wCall (f : FuncId) (args : List Value) (H : Heap) (K : Value → Heap → Prop) : Prop := wT P (.call f args H) K
def wTgt (x : Option Tgt) (H : Heap) (K : Value → Heap → Prop) : Prop := match x with
  | some t => (match t with
    | .fn f args => wCall P f args H K
    | .yld l args => wT P (.round l args H) K)
  | none => False
def wMp (H : Heap) (K : Value → Heap → Prop) : Prop := K (.map (some H.next)) (newMp H)
def vcOp (op : Op) (ρ : Env) (H : Heap) (K : Value → Heap → Prop) : Prop := match op with
  | .move x => K (ev x ρ) H
  | .assign x => K (ev x ρ) H
  | .pick c a b => opP (pickA (ev c ρ) (ev a ρ) (ev b ρ)) fun v => K v H
  | .alloc t => match zeroB P t with
    | some z => wNew (cellsL z) H K
    | none => False
  | .box _ x => wNew (cellsL (ev x ρ)) H K
  | .build t parts => opP ((buildC P t).f (evPartsE parts.toList ρ)) fun v => K v H
  | .buildSlice t len parts => opW ((buildSliceC P t len).f (evPartsE parts.toList ρ) H) K
  | .load t a => opW ((loadC P t).f (ev a ρ) H) K
  | .store t a x => match sizeB P t with
    | some n => opW (storeTo n (ev a ρ) (ev x ρ) H) K
    | none => False
  | .nilCheck x => opP (nilCheckA (ev x ρ)) fun v => K v H
  | .binOp op t x y _ => opP ((binC P op t (isConstB x || isConstB y)).f (ev x ρ) (ev y ρ)) fun v => K v H
  | .unOp op _ x => opP (unA op (ev x ρ)) fun v => K v H
  | .convert s d x => opW ((convC P s d).f (ev x ρ) H) K
  | .makeInterface t x => match P.underlying t with
    | some (.interface _) => False
    | some _ => K (.iface t (ev x ρ)) H
    | none => False
  | .makeFunc fn first cap => match fn with
    | .func f => K (.func (.func f) (evsE first.toList ρ).toArray (evsE cap.toList ρ).toArray) H
    | _ => False
  | .makeSlice t l c => opW ((makeSliceC P t).f (ev l ρ) (ev c ρ) H) K
  | .slice t x lo hi mx => opP ((sliceC P t).f (ev x ρ) (evOE lo ρ) (evOE hi ρ) (evOE mx ρ) H) fun v => K v H
  | .fieldAddr s x f => opP ((fieldAddrC P s f).f (ev x ρ)) fun v => K v H
  | .field t x f => opP ((fieldC P t f).f (ev x ρ)) fun v => K v H
  | .indexAddr t x i => opP ((indexAddrC P t).f (ev x ρ) (ev i ρ)) fun v => K v H
  | .index t x i => opP ((indexC P t).f (ev x ρ) (ev i ρ)) fun v => K v H
  | .typeAssert x _ a ok => opP ((typeAssertC P a ok).f (ev x ρ)) fun v => K v H
  | .extract x i => opP (extA i (ev x ρ)) fun v => K v H
  | .call c => match c.callee with
    | .builtin b => opW ((builtinC P b c.argTypes.toList).f (evsE c.args.toList ρ) H) K
    | .value f => wTgt P (callee1 (ev f ρ) (evsE c.args.toList ρ)) H K
    | .invoke r name => wTgt P (invoke1 P name (ev r ρ) (evsE c.args.toList ρ)) H K
  | .makeMap _ r => match r with
    | none => wMp H K
    | some _ => False
  | .lookup t x i ok => opW (lookA P t ok (ev x ρ) (ev i ρ) H) K
  | .mapUpdate t m k x => opW (updA P t (ev m ρ) (ev k ρ) (ev x ρ) H) K
  | .insert t m k x => opW (updA P t (ev m ρ) (ev k ρ) (ev x ρ) H) K
  | _ => False
def vcStep (op : Op) (ρ : Env) (H : Heap) (K : Value → Heap → Prop) : Prop := match allN (operandOk P) op.operands.toList with
  | true => vcOp P op ρ H K
  | false => False
inductive Kn where
  | yes | no | undef | any
def getK (l : List (Nat × Kn)) (d : Nat) : Kn := List.rec (motive := fun _ => Kn) .any (fun x _ ih => cond (Nat.beq x.1 d) x.2 ih) l
def setK (l : List (Nat × Kn)) (d : Option Tmp) (k : Kn) : List (Nat × Kn) := match d with | some d => (d, k) :: l | none => l
def knO (known : List (Nat × Kn)) (x : Operand) : Kn := match x with
  | .tmp t => getK known t
  | .const v => match v with
    | .bool b => (match b with | true => .yes | false => .no)
    | _ => .any
  | _ => .any
def knOp (known : List (Nat × Kn)) (op : Op) : Kn := match op with
  | .pick c a b => match knO known c with
    | .yes => knO known a
    | .no => knO known b
    | _ => .any
  | .move x => knO known x
  | .assign x => knO known x
  | _ => .any
def dstOk (n : Nat) (d : Option Tmp) : Bool := match d with | some d => Nat.blt d n | none => true
def vcGuard (n : Nat) (all : List Oper) (o : Oper) (doIt skip : List (Nat × Kn) → Prop) (known : List (Nat × Kn)) (ρ : Env) : Prop := match dstOk n o.dst with
  | false => False
  | true => match grdSlot all o.guard with
    | none => doIt known
    | some (ds, want) => match ds with
      | none => skip known
      | some d => match getK known d with
        | .yes => cond want (doIt known) (skip known)
        | .no => cond want (skip known) (doIt known)
        | .undef => skip known
        | .any => cond want (wIf (ρ d) (doIt ((d, .yes) :: known)) (skip ((d, .no) :: known))) (wIf (ρ d) (skip ((d, .yes) :: known)) (doIt ((d, .no) :: known)))
def vcOps (n : Nat) (all l : List Oper) (K : Env → Heap → Prop) : List (Nat × Kn) → Env → Heap → Prop :=
  List.rec (motive := fun _ => List (Nat × Kn) → Env → Heap → Prop) (fun _ ρ H => K ρ H)
    (fun o _ ih known ρ H => vcGuard n all o (fun kn => vcStep P o.op ρ H fun v H' => ih (setK kn o.dst (knOp kn o.op)) (put ρ o.dst v) H') (fun kn => ih (setK kn o.dst .undef) (put ρ o.dst undef) H) known ρ) l
def mkRecE (o : Oper) (p : Plan) (ρ : Env) (H H' : Heap) : Rec := ⟨p.ix, p.kind, match p.kind with | 1 => idsOf (evsE o.op.operands.toList ρ) | 4 => idsOf (evsE o.op.operands.toList ρ) | _ => [], H.next, H'.next, match p.kind with | 3 => sameB H H' | _ => fun _ => false⟩
def compatP (k j : Rec) (X : Prop) : Prop := match k.kind with
  | 0 => X
  | 1 => match j.kind with
    | 3 => cSame j.same k.ids ∧ X
    | 4 => cApart k.ids j.ids ∧ X
    | _ => X
  | 2 => match j.kind with
    | 0 => X
    | 1 => cOut j.ids k.lo k.hi ∧ X
    | 2 => X
    | 4 => cOut j.ids k.lo k.hi ∧ X
    | _ => False
  | 3 => match j.kind with
    | 0 => X
    | 1 => cSame k.same j.ids ∧ X
    | 2 => X
    | _ => False
  | 4 => match j.kind with
    | 0 => X
    | 1 => cApart k.ids j.ids ∧ cOut j.ids k.lo k.hi ∧ X
    | 2 => X
    | _ => False
  | _ => False
def fitsP (mask : Nat) (j : Rec) (rs : List Rec) (X : Prop) : Prop := match j.kind with
  | 0 => X
  | _ => List.rec (motive := fun _ => Prop) X (fun k _ ih => cond (bitB mask k.ix) ih (compatP k j ih)) rs
def cBare (H1 H : Heap) : Prop := Nat.beq H1.next H.next = true
def vcStepD (p : Plan) (op : Op) (ρ : Env) (H : Heap) (K : Value → Heap → Prop) : Prop := match p.bare with
  | true => vcStep P op ρ (bare H) fun v H1 => cBare H1 H ∧ K v H
  | false => vcStep P op ρ H K
def vcD (n : Nat) (all : List Oper) (l : List (Oper × Plan)) (K : Env → Heap → Prop) : List (Nat × Kn) → Env → Heap → List Rec → Prop :=
  List.rec (motive := fun _ => List (Nat × Kn) → Env → Heap → List Rec → Prop) (fun _ ρ H _ => K ρ H)
    (fun o _ ih known ρ H rs => vcGuard n all o.1 (fun kn => vcStepD P o.2 o.1.op ρ H fun v H' => fitsP o.2.mask (mkRecE o.1 o.2 ρ H H') rs (ih (setK kn o.1.dst (knOp kn o.1.op)) (put ρ o.1.dst v) H' (mkRecE o.1 o.2 ρ H H' :: rs)))
      (fun kn => ih (setK kn o.1.dst .undef) (put ρ o.1.dst undef) H rs) known ρ) l
def vcR (n : Nat) (ops : List Oper) (d : Bool) (ρ : Env) (H : Heap) (K : Env → Heap → Prop) : Prop := match d with
  | true => match apartAll ops with
    | true => vcD P n ops (plans P ops) K [] ρ H []
    | false => False
  | false => vcOps P n ops ops K [] ρ H
def AgreeK (keys : List Nat) (ρ : Env) (T : List Value) : Prop := ∀ i, i ∈ keys → nth T i = ρ i
def exQ (Qx : Nat → List Value → Heap → Prop) (Qr : List Value → Heap → Prop) : Ex → List Value → Heap → Prop
  | .normal => fun _ _ => False
  | .exit id => Qx id
  | .ret => Qr
def wLoop (top : Bool) (n : Nat) (b : Code) (X : Nat) (vals : List Value) (H : Heap) (Qx : Nat → List Value → Heap → Prop) (Qr : List Value → Heap → Prop) : Prop :=
  ∀ T, T.length = n → AgreeK (bits n (live b 0 X)) (envOf (bits n (live b 0 X)) vals) T →
    ∃ m o, runO P m (.loop top b T H) = some o ∧ o.T.length = n ∧ ∃ l, AgreeK (bits n X) (envOf (bits n X) l) o.T ∧ exQ Qx Qr o.ex l o.H
def seqQ (J : Env → Heap → Prop) (Q : Ex → Env → Heap → Prop) : Ex → Env → Heap → Prop
  | .normal => J
  | .exit id => Q (.exit id)
  | .ret => Q .ret
def blockQ (id : Nat) (Q : Ex → Env → Heap → Prop) : Ex → Env → Heap → Prop
  | .normal => Q .normal
  | .exit i => fun ρ H => cond (Nat.beq i id) (Q .normal ρ H) (Q (.exit i) ρ H)
  | .ret => Q .ret
def loopQ (n : Nat) (b : Code) (X : Nat) (N : List Value → Heap → Prop) (Qx : Nat → List Value → Heap → Prop) (Qr : List Value → Heap → Prop) : Ex → Env → Heap → Prop
  | .normal => fun ρ H => N (mapN ρ (bits n (live b 0 X))) H
  | .exit id => fun ρ H => Qx id (mapN ρ (bits n X)) H
  | .ret => fun ρ H => Qr (mapN ρ (bits n X)) H
def exR (N : Heap → Prop) (Qx : Nat → Heap → Prop) (Qr : Heap → Prop) : Ex → Heap → Prop
  | .normal => N
  | .exit id => Qx id
  | .ret => Qr
def liveR (asg body : Code) : Nat := live asg (live body 0 0) 0
def wRange (n : Nat) (ps : List Tmp) (asg body : Code) (vals : List Value) (g : Value) (H : Heap) (N : Heap → Prop) (Qx : Nat → Heap → Prop) (Qr : Heap → Prop) : Prop :=
  ∀ T, T.length = n → AgreeK (bits n (liveR asg body)) (envOf (bits n (liveR asg body)) vals) T →
    ∃ m o, rangeA (runO P m) g ps asg body T H = some o ∧ o.T = T ∧ exR N Qx Qr o.ex o.H
def evR (g : Operand) (ρ : Env) : Value := match g with | .tmp t => ρ t | _ => undef
def loopsOf (c : Code) : List Code :=
  Code.rec (motive := fun _ => List Code) [] (fun _ _ _ => []) (fun _ _ a b => appN a b) (fun _ _ _ a b => appN a b) (fun _ _ a => a) (fun b a => b :: a) (fun _ _ _ _ a b => appN a b) (fun _ => []) (fun _ a => a) (fun _ => []) (fun _ => []) [] (fun _ => []) c
def codeOf (P : Program) (f : FuncId) : Code := match P.funcs.toList[f]? with
  | some fn => (match fn.body with | some c => c | none => .skip)
  | none => .skip
def loopAt (P : Program) (f : FuncId) (i : Nat) : Code := match atN (loopsOf (codeOf P f)) i with
  | some b => b
  | none => .skip
def vcC (top : Bool) (n : Nat) (c : Code) : Nat → Nat → Env → Heap → (Ex → Env → Heap → Prop) → Prop :=
  Code.rec (motive := fun _ => Nat → Nat → Env → Heap → (Ex → Env → Heap → Prop) → Prop)
    (fun _ _ ρ H Q => Q .normal ρ H)
    (fun _ ops d _ _ ρ H Q => vcR P n ops.toList d ρ H (Q .normal))
    (fun a b ia ib N X ρ H Q => match joinB a b with
      | true => wJoin (fun J => ia (live b N X) X ρ H (seqQ (fun ρ H => J (mapN ρ (bits n (live b N X))) H) Q)) (fun l H => ib N X (envOf (bits n (live b N X)) l) H Q)
      | false => ia (live b N X) X ρ H (seqQ (fun ρ H => ib N X ρ H Q) Q))
    (fun c _ _ ia ib N X ρ H Q => wIf (ev c ρ) (ia N X ρ H Q) (ib N X ρ H Q))
    (fun id _ ib N X ρ H Q => ib N (Nat.lor N X) ρ H (blockQ id Q))
    (fun b _ _ X ρ H Q => match Nat.beq (live b (live b 0 X) X) (live b 0 X) with
      | true => wLoop P top n b X (mapN ρ (bits n (live b 0 X))) H (fun id l H => Q (.exit id) (envOf (bits n X) l) H) (fun l H => Q .ret (envOf (bits n X) l) H)
      | false => False)
    (fun g ps asg body _ _ _ _ ρ H Q => match top with
      | true => wRange P n ps.toList asg body (mapN ρ (bits n (liveR asg body))) (evR g ρ) H (Q .normal ρ) (fun id => Q (.exit id) ρ) (Q .ret ρ)
      | false => False)
    (fun id _ _ ρ H Q => Q (.exit id) ρ H)
    (fun _ _ _ _ _ _ _ => False)
    (fun _ _ _ ρ H Q => Q .normal ρ H)
    (fun _ _ _ _ _ _ => False)
    (fun _ _ ρ H Q => Q .ret ρ H)
    (fun _ _ _ _ _ _ => False) c
def res1 (r : ResultVar) (ρ : Env) (H : Heap) (K : Value → Prop) : Prop := match r with
  | .tmp t => K (ρ t)
  | .cell a t => opW ((loadC P t).f (ρ a) H) fun v _ => K v
def resL (rs : List ResultVar) (ρ : Env) (H : Heap) : (List Value → Prop) → Prop :=
  List.rec (motive := fun _ => (List Value → Prop) → Prop) (fun k => k []) (fun r _ ih k => res1 P r ρ H fun v => ih fun vs => k (v :: vs)) rs
def resW (rs : List ResultVar) (ρ : Env) (H : Heap) (K : Value → Heap → Prop) : Prop := match rs with
  | [r] => res1 P r ρ H fun v => K v H
  | rs => resL P rs ρ H fun vs => K (.tuple vs.toArray) H
def rdR (r : ResultVar) : Nat := match r with | .tmp t => Nat.shiftLeft 1 t | .cell a _ => Nat.shiftLeft 1 a
def rdRes (rs : List ResultVar) : Nat := List.rec (motive := fun _ => Nat) 0 (fun r _ ih => Nat.lor (rdR r) ih) rs
def endQ (rs : List ResultVar) (K : Value → Heap → Prop) : Ex → Env → Heap → Prop
  | .normal => fun ρ H => resW P rs ρ H K
  | .exit _ => fun _ _ => False
  | .ret => fun ρ H => resW P rs ρ H K
def vcF (f : FuncId) (args : List Value) (H : Heap) (K : Value → Heap → Prop) : Prop := match P.funcs.toList[f]? with
  | some fn => match fn.body with
    | some c => match Nat.ble (lenN args) fn.ntmps with
      | true => vcC P true fn.ntmps c (rdRes fn.results.toList) (rdRes fn.results.toList) (fun i => nth args i) H (endQ P fn.results.toList K)
      | false => False
    | none => False
  | none => False
end
end
end Go.Ab
namespace Go.Ab
open Go
local instance : Base := ⟨fun _ => none, 0⟩
set_option linter.unusedVariables false
set_option linter.unusedSectionVars false
theorem bit_or (a b i : Nat) : bitB (Nat.lor a b) i = (bitB a i || bitB b i) := by
  rw [bitB_eq, bitB_eq, bitB_eq, show Nat.lor a b = a ||| b from rfl, Nat.testBit_or]
theorem bit_one (t i : Nat) : bitB (Nat.shiftLeft 1 t) i = decide (t = i) := by
  rw [bitB_eq, show Nat.shiftLeft 1 t = 1 <<< t from rfl, Nat.testBit_shiftLeft]
  grind[Nat.testBit_one_eq_true_iff_self_eq_zero]
theorem bit_clr (m d i : Nat) : bitB (clr m d) i = (bitB m i && decide (d ≠ i)) := by
  unfold clr
  cases hb : bitB m d with
  | true =>
    simp only [cond_true]
    rw [bitB_eq, show Nat.xor m (Nat.shiftLeft 1 d) = m ^^^ (1 <<< d) from rfl, Nat.testBit_xor, ← bitB_eq, ← bitB_eq, show (1 <<< d) = Nat.shiftLeft 1 d from rfl, bit_one]
    grind
  | false =>
    grind
def Agree (m : Nat) (ρ : Env) (T : List Value) : Prop := ∀ i, bitB m i = true → nth T i = ρ i
theorem Agree.or {a b : Nat} {ρ : Env} {T : List Value} (h : Agree (Nat.lor a b) ρ T) : Agree a ρ T ∧ Agree b ρ T :=
  ⟨fun i hi => h i (by grind[bit_or]), fun i hi => h i (by rw [bit_or, hi, Bool.or_true])⟩
theorem nth_set {T : List Value} {d i : Nat} {v : Value} (hd : d < T.length) : nth (setN T d v) i = if d = i then v else nth T i := by
  rw [setN_eq, nth_eq, nth_eq, List.getD_eq_getElem?_getD, List.getD_eq_getElem?_getD]
  grind
theorem put_agree {m n : Nat} {ρ : Env} {T : List Value} {d : Option Tmp} {v : Value} (hl : T.length = n) (hd : dstOk n d = true) (h : Agree (clrO m d) ρ T) : Agree m (put ρ d v) (putT T d v) := by
  cases d with
  | none => exact h
  | some d =>
    have hd : d < T.length := by rw [hl]; have : Nat.blt d n = true := hd; simp_all
    intro i hi
    show nth (setN T d v) i = cond (Nat.beq i d) v (ρ i)
    rw [nth_set hd]
    by_cases he : d = i
    · simp_all
    · rw [if_neg he]
      have : Nat.beq i d = false := by
        grind[Nat.eq_of_beq_eq_true]
      rw [this]
      refine h i ?_
      show bitB (clr m d) i = true
      simp_all[bit_clr]
theorem putT_length {T : List Value} {d : Option Tmp} {v : Value} : (putT T d v).length = T.length := put_length
theorem evsE_map (l : List Operand) (ρ : Env) : evsE l ρ = l.map (ev · ρ) := by
  induction l with
  | nil => rfl
  | cons x r ih => simp_all[evsE]
theorem rdO_ok {x : Operand} {ρ : Env} {T : List Value} (h : Agree (rdO x) ρ T) : (evC x).g T = ev x ρ := by
  cases x with
  | tmp t => exact h t (by show bitB (Nat.shiftLeft 1 t) t = true; rw [bit_one]; simp)
  | _ => rfl
theorem rdL_ok {l : List Operand} {ρ : Env} {T : List Value} (h : Agree (rdL l) ρ T) : ∀ x ∈ l, (evC x).g T = ev x ρ := by
  induction l with
  | nil => simp
  | cons x r ih =>
    intro y hy
    rcases List.mem_cons.1 hy with rfl | hy
    · exact rdO_ok h.or.1
    · exact ih h.or.2 y hy
theorem evs_agree {l : List Operand} {ρ : Env} {T : List Value} (h : ∀ x ∈ l, (evC x).g T = ev x ρ) : evs l T = evsE l ρ := by
  simp_all[evs_map,evsE_map]
theorem evParts_agree {l : List (Nat × Operand)} {ρ : Env} {T : List Value} (h : ∀ p ∈ l, (evC p.2).g T = ev p.2 ρ) : evParts l T = evPartsE l ρ := by
  induction l with
  | nil => rfl
  | cons p r ih =>
    grind[evParts,evPartsE]
theorem evO_agree {o : Option Operand} {ρ : Env} {T : List Value} (h : ∀ x, o = some x → (evC x).g T = ev x ρ) : evO o T = evOE o ρ := by
  cases o with
  | none => rfl
  | some x => show some _ = some _; grind
section
variable {P : Program} [Orc]
theorem withH_opP {r : Option Value} {H : Heap} {K : Value → Heap → Prop} (h : opP r fun v => K v H) : ∃ v H', withH H r = some (v, H') ∧ K v H' := by
  obtain ⟨v, rfl, hk⟩ := h
  exact ⟨v, H, rfl, hk⟩
theorem wNew_some {cs : List Value} {H : Heap} {K : Value → Heap → Prop} (h : wNew cs H K) : ∃ v H', newRef cs H = some (v, H') ∧ K v H' := ⟨_, _, rfl, h⟩
def mapOpB : Op → Bool
  | .makeMap _ _ => true
  | .lookup _ _ _ _ => true
  | .mapUpdate _ _ _ _ => true
  | .insert _ _ _ _ => true
  | _ => false
theorem vcOp_ok {op : Op} {ρ : Env} {T : List Value} {H : Heap} {K : Value → Heap → Prop} (hop : ∀ x ∈ op.operands.toList, (evC x).g T = ev x ρ) (hnc : ∀ c, op = .call c → ∃ b, c.callee = .builtin b) (hmp : mapOpB op = false) (h : vcOp P op ρ H K) :
    ∃ v H', (opC P op).f T H = some (v, H') ∧ K v H' := by
  cases op <;> first | (cases hmp; done) | skip
  all_goals (simp only [vcOp] at h <;> simp only [opC] <;> first | exact h.elim | skip)
  case move x => grind[Op.operands]
  case assign x => grind[Op.operands]
  case pick c a b =>
    obtain ⟨v, hv, hk⟩ := h
    grind[Op.operands,pickA]
  case alloc t =>
    grind[wNew_some]
  case box t x => simp_all[Op.operands,wNew_some]
  case build t parts =>
    rw [evParts_agree fun p hp => hop p.2 (by grind[Op.operands])]
    exact withH_opP h
  case buildSlice t len parts =>
    rw [evParts_agree fun p hp => hop p.2 (by grind[Op.operands])]
    exact h
  case load t a => rw [hop a (by simp [Op.operands])]; exact h
  case store t a x =>
    cases hz : sizeB P t with
    | some z => rw [hz] at h; simp only; rw [hop a (by simp [Op.operands]), hop x (by simp [Op.operands])]; exact h
    | none => simp_all
  case nilCheck x => simp_all[Op.operands,withH_opP]
  case binOp o t x y z => simp_all[Op.operands,withH_opP]
  case unOp o t x => simp_all[Op.operands,withH_opP]
  case convert s d x => rw [hop x (by simp [Op.operands])]; exact h
  case makeInterface t x =>
    grind[Op.operands]
  case makeFunc fn first cap =>
    cases fn <;> first | exact h.elim | skip
    grind[evs_agree,Op.operands]
  case makeSlice t l c => rw [hop l (by simp [Op.operands]), hop c (by simp [Op.operands])]; exact h
  case slice t x lo hi mx =>
    rw [hop x (by simp [Op.operands]), evO_agree fun y e => hop y (by simp_all[Op.operands]), evO_agree fun y e => hop y (by simp_all[Op.operands]), evO_agree fun y e => hop y (by simp_all[Op.operands])]
    exact withH_opP h
  case fieldAddr s x f => simp_all[Op.operands,withH_opP]
  case field t x f => simp_all[Op.operands,withH_opP]
  case indexAddr t x i => simp_all[Op.operands,withH_opP]
  case index t x i => simp_all[Op.operands,withH_opP]
  case typeAssert x t a ok => simp_all[Op.operands,withH_opP]
  case extract x i =>
    rw [hop x (by simp [Op.operands])]
    obtain ⟨v, hv, hk⟩ := h
    unfold extA at hv
    split at hv
    · rename_i vs he; rw [he]; exact ⟨v, H, by simp only [hv]; rfl, hk⟩
    grind
  case call c =>
    obtain ⟨b, hb⟩ := hnc c rfl
    rw [hb] at h ⊢
    simp only at h ⊢
    rw [evs_agree fun z hz => hop z (by simp_all[Op.operands,Call.operands])]
    exact h
theorem wT_callOut {t : Tgt} {H : Heap} {K : Value → Heap → Prop} (h : wTgt P (some t) H K) : ∃ m v H', callOut (runO P m) (some t) H = some (v, H') ∧ K v H' := by
  cases t with
  | fn f args =>
    obtain ⟨n, ex, v, H', h1, h2⟩ := h
    grind[callOut,taskOf]
  | yld l args =>
    obtain ⟨n, ex, v, H', h1, h2⟩ := h
    grind[callOut,taskOf]
theorem wTgt_callOut {x : Option Tgt} {H : Heap} {K : Value → Heap → Prop} (h : wTgt P x H K) : ∃ m v H', callOut (runO P m) x H = some (v, H') ∧ K v H' := by
  cases x with
  | none => exact h.elim
  | some t => exact wT_callOut h
theorem vcStep_ok {op : Op} {ρ : Env} {T : List Value} {H : Heap} {K : Value → Heap → Prop} (hop : ∀ x ∈ op.operands.toList, (evC x).g T = ev x ρ) (h : vcStep P op ρ H K) :
    ∃ m v H', (stepC P op).f (runO P m) T H = some (v, H') ∧ K v H' := by
  unfold vcStep at h
  split at h
  case h_2 => grind
  case h_1 hok =>
  unfold stepC
  rw [hok]
  simp only
  unfold stepC0
  split
  · split
    · obtain ⟨v, H', h1, h2⟩ := vcOp_ok hop (fun c' e => by simp_all) rfl h
      exact ⟨0, v, H', h1, h2⟩
    · grind[vcOp,Op.operands,Call.operands,evs_agree,wTgt_callOut]
    grind[vcOp,Op.operands,Call.operands,evs_agree,wTgt_callOut]
  · rename_i t r
    cases r with
    | none => exact ⟨0, _, _, rfl, h⟩
    | some y => exact h.elim
  · obtain ⟨v, H', h1, h2⟩ := h
    refine ⟨0, v, H', ?_, h2⟩
    simp_all[Op.operands]
  · obtain ⟨v, H', h1, h2⟩ := h
    refine ⟨0, v, H', ?_, h2⟩
    simp_all[Op.operands]
  · obtain ⟨v, H', h1, h2⟩ := h
    refine ⟨0, v, H', ?_, h2⟩
    simp_all[Op.operands]
  · rename_i hne hn2 hn3 hn4 hn5
    obtain ⟨v, H', h1, h2⟩ := vcOp_ok hop (fun c e => absurd e (hne c)) (by cases op <;> first | rfl | exact absurd rfl (hn2 _ _) | exact absurd rfl (hn3 _ _ _ _) | exact absurd rfl (hn4 _ _ _ _) | grind) h
    exact ⟨0, v, H', h1, h2⟩
def KnIs (T : List Value) (d : Nat) : Kn → Prop
  | .yes => nth T d = .bool true
  | .no => nth T d = .bool false
  | .undef => nth T d = Go.undef
  | .any => True
def KnOk (known : List (Nat × Kn)) (T : List Value) : Prop := ∀ d, KnIs T d (getK known d)
theorem getK_cons (x : Nat × Kn) (l : List (Nat × Kn)) (d : Nat) : getK (x :: l) d = if x.1 = d then x.2 else getK l d := by
  show cond (Nat.beq x.1 d) x.2 (getK l d) = _
  simp_all
theorem KnOk.cons {known : List (Nat × Kn)} {T : List Value} (h : KnOk known T) {d : Nat} {k : Kn} (hk : KnIs T d k) : KnOk ((d, k) :: known) T := fun i => by
  rw [getK_cons]
  split
  · simp_all
  · exact h i
theorem KnOk.put {known : List (Nat × Kn)} {T : List Value} {n : Nat} (hl : T.length = n) {d : Option Tmp} (hd : dstOk n d = true) (h : KnOk known T) {v : Value} {k : Kn} (hk : ∀ T' x, nth T' x = v → KnIs T' x k) : KnOk (setK known d k) (putT T d v) := by
  cases d with
  | none => exact h
  | some d =>
    have hd : d < T.length := by rw [hl]; have : Nat.blt d n = true := hd; simp_all
    have same : nth (setN T d v) d = v := by simp_all[nth_set]
    intro i
    show KnIs (setN T d v) i (getK ((d, k) :: known) i)
    rw [getK_cons]
    split
    · simp_all
    · rename_i e
      have hi := h i
      have e2 : nth (setN T d v) i = nth T i := by simp_all[nth_set]
      simp_all[KnIs]
theorem knO_ok {known : List (Nat × Kn)} {T : List Value} (hk : KnOk known T) (x : Operand) : ∀ T' i, nth T' i = (evC x).g T → KnIs T' i (knO known x) := by
  intro T' i h
  cases x with
  | tmp t =>
    have := hk t
    have h : nth T' i = nth T t := h
    show KnIs T' i (getK known t)
    simp_all[KnIs]
  | const v =>
    cases v <;> first | trivial | skip
    rename_i b
    cases b <;> exact h
  | _ => trivial
theorem knOp_ok {known : List (Nat × Kn)} {T : List Value} {m : Nat} {op : Op} {H H' : Heap} {v : Value} (hk : KnOk known T) (h : (stepC P op).f (runO P m) T H = some (v, H')) : ∀ T' i, nth T' i = v → KnIs T' i (knOp known op) := by
  intro T' i hv
  cases op <;> first | trivial | skip
  case move x =>
    unfold stepC at h
    split at h
    · cases h; exact knO_ok hk x T' i hv
    · cases h
  case assign x =>
    unfold stepC at h
    split at h
    · cases h; exact knO_ok hk x T' i hv
    · cases h
  case pick c a b =>
    unfold stepC at h
    split at h
    case h_2 => cases h
    case h_1 =>
    have h : (match (evC c).g T with | .bool t => (match t with | true => some ((evC a).g T, H) | false => some ((evC b).g T, H)) | _ => none) = some (v, H') := h
    have hc := knO_ok hk c [(evC c).g T] 0 rfl
    show KnIs T' i (match knO known c with | .yes => knO known a | .no => knO known b | _ => .any)
    cases hkc : knO known c with
    | yes =>
      rw [hkc] at hc
      rw [show (evC c).g T = .bool true from hc] at h
      grind[knO_ok]
    | no =>
      rw [hkc] at hc
      rw [show (evC c).g T = .bool false from hc] at h
      grind[knO_ok]
    | undef => trivial
    | any => trivial
theorem vcGuard_ok {n : Nat} {all : List Oper} {o : Oper} {A B : List (Nat × Kn) → Prop} {known : List (Nat × Kn)} {ρ : Env} {T : List Value} (hk : KnOk known T) (hag : Agree (rdG all o.guard) ρ T) (h : vcGuard n all o A B known ρ) :
    dstOk n o.dst = true ∧ (((wantedC all o.guard).f T = true ∧ ∃ kn, KnOk kn T ∧ A kn) ∨ ((wantedC all o.guard).f T = false ∧ ∃ kn, KnOk kn T ∧ B kn)) := by
  unfold vcGuard at h
  split at h
  case h_1 => grind
  case h_2 hd =>
  refine ⟨hd, ?_⟩
  cases hg : o.guard with
  | none =>
    rw [hg] at h
    exact .inl ⟨rfl, known, hk, h⟩
  | some jw =>
    obtain ⟨j, want⟩ := jw
    rw [hg] at h hag
    have hs : grdSlot all (some (j, want)) = some ((atN all j).bind (·.dst), want) := rfl
    rw [hs] at h
    have ea : atN all j = all[j]? := atN_eq _ _
    cases hb : (all[j]?).bind (·.dst) with
    | none =>
      grind[wantedC]
    | some d =>
      rw [ea, hb] at h
      simp only at h
      have hw : (wantedC all (some (j, want))).f T = (match nth T d with | .bool b => b == want | _ => false) := by grind[wantedC]
      have hkd := hk d
      have hρ := hag d (by
        grind[rdG,bit_one])
      rw [hw]
      cases hgk : getK known d with
      | yes =>
        rw [hgk] at h hkd
        rw [show nth T d = .bool true from hkd]
        grind
      | no =>
        rw [hgk] at h hkd
        rw [show nth T d = .bool false from hkd]
        grind
      | undef =>
        rw [hgk] at h hkd
        rw [show nth T d = Go.undef from hkd]
        exact .inr ⟨rfl, known, hk, h⟩
      | any =>
        rw [hgk] at h
        rw [hρ]
        cases want with
        | true =>
          obtain ⟨h1, h2, t, ht⟩ := (h)
          rw [ht]
          cases t with
          | true => exact .inl ⟨rfl, _, hk.cons (k := .yes) (hρ.trans ht), h1 ht⟩
          | false => exact .inr ⟨rfl, _, hk.cons (k := .no) (hρ.trans ht), h2 ht⟩
        | false =>
          obtain ⟨h1, h2, t, ht⟩ := (h)
          rw [ht]
          cases t with
          | true => exact .inr ⟨rfl, _, hk.cons (k := .yes) (hρ.trans ht), h1 ht⟩
          | false => exact .inl ⟨rfl, _, hk.cons (k := .no) (hρ.trans ht), h2 ht⟩
theorem vcOps_ok {n N : Nat} {all : List Oper} {K : Env → Heap → Prop} : ∀ (l : List Oper) (known : List (Nat × Kn)) (ρ : Env) (T : List Value) (H : Heap), T.length = n → Agree (liveOps all l N) ρ T → KnOk known T → vcOps P n all l K known ρ H →
    ∃ m o, opsA P (runO P m) all l T H = some o ∧ o.ex = .normal ∧ o.T.length = n ∧ ∃ ρ', Agree N ρ' o.T ∧ K ρ' o.H
  | [], known, ρ, T, H, hl, ha, hk, h => ⟨0, _, rfl, rfl, hl, ρ, ha, h⟩
  | o :: l, known, ρ, T, H, hl, ha, hk, h => by
    have h : vcGuard n all o (fun kn => vcStep P o.op ρ H fun v H' => vcOps P n all l K (setK kn o.dst (knOp kn o.op)) (put ρ o.dst v) H') (fun kn => vcOps P n all l K (setK kn o.dst .undef) (put ρ o.dst undef) H) known ρ := h
    obtain ⟨a1, a2⟩ := ha.or
    obtain ⟨a2, a3⟩ := a2.or
    obtain ⟨hd, hg⟩ := vcGuard_ok hk a3 h
    rcases hg with ⟨hw, kn, hkn, hA⟩ | ⟨hw, kn, hkn, hB⟩
    · obtain ⟨m1, v, H', h1, h2⟩ := vcStep_ok (rdL_ok a2) hA
      obtain ⟨m2, o2, g1, g2, g3, g4⟩ := vcOps_ok l _ _ _ _ (putT_length.trans hl) (put_agree hl hd a1) (hkn.put hl hd (knOp_ok hkn h1)) h2
      refine ⟨max m1 m2, o2, ?_, g2, g3, g4⟩
      show opF1 P (runO P (max m1 m2)) o ((wantedC all o.guard).f T) T H (opsA P (runO P (max m1 m2)) all l) = some o2
      rw [hw]
      unfold opF1
      simp only [stepC_le (run_le (Nat.le_max_left m1 m2)) h1]
      exact opsA_le (run_le (Nat.le_max_right m1 m2)) _ _ _ _ _ g1
    · obtain ⟨m2, o2, g1, g2, g3, g4⟩ := vcOps_ok l _ _ _ _ (putT_length.trans hl) (put_agree hl hd a1) (hkn.put hl hd (k := .undef) fun _ _ e => e) hB
      refine ⟨m2, o2, ?_, g2, g3, g4⟩
      show opF1 P (runO P m2) o ((wantedC all o.guard).f T) T H (opsA P (runO P m2) all l) = some o2
      rw [hw]
      exact g1
theorem compat_ok {k j : Rec} {X : Prop} (h : compatP k j X) : compat k j = true ∧ X := by
  unfold compatP at h
  unfold compat
  split at h
  · simp_all
  · rename_i e; rw [e]; simp only
    split at h
    · rename_i e2; rw [e2]; exact h
    · rename_i e2; rw [e2]; exact h
    simp_all
  · rename_i e; rw [e]; simp only
    split at h
    · simp_all
    · rename_i e2; rw [e2]; exact h
    · simp_all
    · rename_i e2; rw [e2]; exact h
    simp_all
  · rename_i e; rw [e]; simp only
    split at h
    · simp_all
    · rename_i e2; rw [e2]; exact h
    · simp_all
    simp_all
  · rename_i e; rw [e]; simp only
    split at h
    · simp_all
    · rename_i e2; rw [e2]; exact ⟨by simp only [Bool.and_eq_true]; exact ⟨h.1, h.2.1⟩, h.2.2⟩
    · simp_all
    simp_all
  simp_all
theorem fits_ok {p : Plan} {j : Rec} {rs : List Rec} {X : Prop} (h : fitsP p.mask j rs X) : fitsAll p j rs = true ∧ X := by
  unfold fitsP at h
  unfold fitsAll
  split at h
  · simp_all
  · rename_i hne
    have key : allN (fun k => bitB p.mask k.ix || compat k j) rs = true ∧ X := by
      rw [allN_eq, List.all_eq_true]
      induction rs with
      | nil => simp_all
      | cons k r ih =>
        grind[compat_ok,compatP]
    simp_all
theorem vcStepD_ok {p : Plan} {o : Oper} {ρ : Env} {T : List Value} {H : Heap} {K : Value → Heap → Prop} (hop : ∀ x ∈ o.op.operands.toList, (evC x).g T = ev x ρ) (h : vcStepD P p o.op ρ H K) :
    ∃ m v H', stepD P (runO P m) o p T H = some (v, H') ∧ K v H' ∧ ∀ kn, KnOk kn T → ∀ T' i, nth T' i = v → KnIs T' i (knOp kn o.op) := by
  unfold vcStepD at h
  unfold stepD
  cases hb : p.bare with
  | true =>
    rw [hb] at h
    obtain ⟨m, v, H1, h1, h2, h3⟩ := vcStep_ok hop h
    refine ⟨m, v, H, ?_, h3, fun kn hkn => knOp_ok hkn h1⟩
    rw [h1]
    unfold bareR
    simp only
    rw [show Nat.beq H1.next H.next = true from h2]
  | false =>
    rw [hb] at h
    obtain ⟨m, v, H', h1, h2⟩ := vcStep_ok hop h
    grind[knOp_ok]
theorem vcD_ok {n N : Nat} {all : List Oper} {K : Env → Heap → Prop} : ∀ (l : List (Oper × Plan)) (known : List (Nat × Kn)) (ρ : Env) (T : List Value) (H : Heap) (rs : List Rec), T.length = n → Agree (liveOps all (l.map (·.1)) N) ρ T → KnOk known T → vcD P n all l K known ρ H rs →
    ∃ m o, opsD P (runO P m) all l T H rs = some o ∧ o.ex = .normal ∧ o.T.length = n ∧ ∃ ρ', Agree N ρ' o.T ∧ K ρ' o.H
  | [], known, ρ, T, H, rs, hl, ha, hk, h => ⟨0, _, rfl, rfl, hl, ρ, ha, h⟩
  | (o, p) :: l, known, ρ, T, H, rs, hl, ha, hk, h => by
    have h : vcGuard n all o (fun kn => vcStepD P p o.op ρ H fun v H' => fitsP p.mask (mkRecE o p ρ H H') rs (vcD P n all l K (setK kn o.dst (knOp kn o.op)) (put ρ o.dst v) H' (mkRecE o p ρ H H' :: rs)))
      (fun kn => vcD P n all l K (setK kn o.dst .undef) (put ρ o.dst undef) H rs) known ρ := h
    obtain ⟨a1, a2⟩ := ha.or
    obtain ⟨a2, a3⟩ := a2.or
    obtain ⟨hd, hg⟩ := vcGuard_ok hk a3 h
    rcases hg with ⟨hw, kn, hkn, hA⟩ | ⟨hw, kn, hkn, hB⟩
    · obtain ⟨m1, v, H', h1, h2, hkv⟩ := vcStepD_ok (rdL_ok a2) hA
      obtain ⟨f1, f2⟩ := fits_ok h2
      have hrec : mkRecE o p ρ H H' = mkRec o p T H H' := by
        unfold mkRecE mkRec
        rw [evs_agree (rdL_ok a2)]
        rfl
      rw [hrec] at f1 f2
      obtain ⟨m2, o2, g1, g2, g3, g4⟩ := vcD_ok l _ _ _ _ _ (putT_length.trans hl) (put_agree hl hd a1) (hkn.put hl hd (hkv _ hkn)) f2
      refine ⟨max m1 m2, o2, ?_, g2, g3, g4⟩
      show opF2 P (runO P (max m1 m2)) o p ((wantedC all o.guard).f T) T H rs (opsD P (runO P (max m1 m2)) all l) = some o2
      rw [hw]
      have hst := stepD_le (run_le (Nat.le_max_left m1 m2)) h1
      unfold opF2
      simp only [hst, f1]
      exact opsD_le (run_le (Nat.le_max_right m1 m2)) _ _ _ _ _ _ g1
    · obtain ⟨m2, o2, g1, g2, g3, g4⟩ := vcD_ok l _ _ _ _ _ (putT_length.trans hl) (put_agree hl hd a1) (hkn.put hl hd (k := .undef) fun _ _ e => e) hB
      refine ⟨m2, o2, ?_, g2, g3, g4⟩
      show opF2 P (runO P m2) o p ((wantedC all o.guard).f T) T H rs (opsD P (runO P m2) all l) = some o2
      rw [hw]
      exact g1
theorem plans_ops (l : List Oper) : (plans P l).map (·.1) = ordO l := by
  unfold plans ordO
  rw [List.map_map]
  rfl
theorem vcR_ok {n N : Nat} {ops : List Oper} {d : Bool} {ρ : Env} {T : List Value} {H : Heap} {K : Env → Heap → Prop} (hl : T.length = n) (ha : Agree (liveOps ops (match d with | true => ordO ops | false => ops) N) ρ T) (h : vcR P n ops d ρ H K) :
    ∃ m o, (match d with | true => drawA P (runO P m) ops T H | false => opsA P (runO P m) ops ops T H) = some o ∧ o.ex = .normal ∧ o.T.length = n ∧ ∃ ρ', Agree N ρ' o.T ∧ K ρ' o.H := by
  unfold vcR at h
  have hk0 : KnOk [] T := fun d => trivial
  cases d with
  | false => grind[vcOps_ok]
  | true =>
    grind[vcD_ok,plans_ops,drawA]
theorem mapN_map (ρ : Env) (l : List Nat) : mapN ρ l = l.map ρ := by
  induction l with
  | nil => rfl
  | cons i r ih => simp_all[mapN]
theorem envFrom_ok (l : List Value) : ∀ (keys : List Nat) (p i : Nat), (∀ k, keys[k]? = some i → (∀ j, j < k → keys[j]? ≠ some i) → envFrom l keys p i = nth l (p + k)) ∧ (i ∉ keys → envFrom l keys p i = undef)
  | [], p, i => ⟨fun k h => by simp at h, fun _ => rfl⟩
  | x :: r, p, i => by
    obtain ⟨h1, h2⟩ := envFrom_ok l r (Nat.succ p) i
    have e : envFrom l (x :: r) p i = cond (Nat.beq i x) (nth l p) (envFrom l r (Nat.succ p) i) := rfl
    refine ⟨fun k hk hj => ?_, fun hn => ?_⟩
    · cases hb : Nat.beq i x with
      | true =>
        grind[Nat.eq_of_beq_eq_true]
      | false =>
        cases k with
        | zero => simp_all
        | succ k =>
          grind
    grind[Nat.eq_of_beq_eq_true]
theorem first_at {l : List Nat} {i : Nat} (h : i ∈ l) : ∃ k : Nat, l[k]? = some i ∧ ∀ j, j < k → l[j]? ≠ some i := by
  induction l with
  | nil => cases h
  | cons x r ih =>
    by_cases hx : x = i
    · exact ⟨0, by simp [hx], fun j hj => by omega⟩
    · obtain ⟨k, h1, h2⟩ := ih (by grind)
      refine ⟨k + 1, by simp_all, fun j hj => ?_⟩
      grind
theorem envOf_mapN (ρ : Env) (keys : List Nat) (i : Nat) : envOf keys (mapN ρ keys) i = if i ∈ keys then ρ i else undef := by
  unfold envOf
  obtain ⟨h1, h2⟩ := envFrom_ok (mapN ρ keys) keys 0 i
  split
  · rename_i h
    obtain ⟨k, a, b⟩ := first_at h
    rw [h1 k a b, mapN_map, nth_eq, List.getD_eq_getElem?_getD, List.getElem?_map, Nat.zero_add, a]; rfl
  simp_all
theorem bits_spec (m : Nat) : ∀ (n : Nat) (acc : List Nat) (i : Nat), i ∈ (Nat.rec (motive := fun _ => List Nat → List Nat) (fun acc => acc) (fun k ih acc => ih (cond (bitB m k) (k :: acc) acc)) n acc) ↔ i ∈ acc ∨ (i < n ∧ bitB m i = true)
  | 0, acc, i => by show i ∈ acc ↔ _; simp
  | n + 1, acc, i => by
    have := bits_spec m n (cond (bitB m n) (n :: acc) acc) i
    grind
theorem mem_bits {n m i : Nat} : i ∈ bits n m ↔ i < n ∧ bitB m i = true := by
  simp_all[bits,bitsFrom,bits_spec]
theorem agree_bits {n m : Nat} {ρ : Env} {T : List Value} (hl : T.length = n) (h : Agree m ρ T) : Agree m (envOf (bits n m) (mapN ρ (bits n m))) T := fun i hi => by
  rw [envOf_mapN]
  split
  · exact h i hi
  simp_all[nth_eq,mem_bits]
theorem envOf_agreeK {n m : Nat} {ρ : Env} {T : List Value} (h : Agree m ρ T) : AgreeK (bits n m) (envOf (bits n m) (mapN ρ (bits n m))) T := fun i hi => by
  rw [envOf_mapN, if_pos hi]; exact h i (mem_bits.1 hi).2
theorem agree_of_K {n m : Nat} {l : List Value} {T : List Value} (hl : T.length = n) (h : AgreeK (bits n m) (envOf (bits n m) l) T) : Agree m (envOf (bits n m) l) T := fun i hi => by
  by_cases hn : i < n
  · exact h i (mem_bits.2 ⟨hn, hi⟩)
  · have h1 : nth T i = undef := by
      simp_all[nth_eq]
    rw [h1]
    exact ((envFrom_ok l (bits n m) 0 i).2 fun hm => hn (mem_bits.1 hm).1).symm
def Lv (N X : Nat) : Ex → Nat
  | .normal => N
  | _ => X
theorem vcC_ok (top : Bool) (n : Nat) : ∀ (c : Code) (N X : Nat) (ρ : Env) (T : List Value) (H : Heap) (Q : Ex → Env → Heap → Prop), T.length = n → Agree (live c N X) ρ T → vcC P top n c N X ρ H Q →
    ∃ m o, (codeC P top c).f (runO P m) T H = some o ∧ o.T.length = n ∧ ∃ ρ', Agree (Lv N X o.ex) ρ' o.T ∧ Q o.ex ρ' o.H := by
  intro c
  induction c with
  | skip => intro N X ρ T H Q hl ha h; exact ⟨0, _, rfl, hl, ρ, ha, h⟩
  | region id ops d =>
    intro N X ρ T H Q hl ha h
    obtain ⟨m, o, h1, h2, h3, ρ', h4, h5⟩ := vcR_ok hl ha h
    refine ⟨m, o, ?_, h3, ρ', by rw [h2]; exact h4, by simp_all⟩
    cases d <;> exact h1
  | seq a b ia ib =>
    intro N X ρ T H Q hl ha h
    have h : (match joinB a b with
      | true => wJoin (fun J => vcC P top n a (live b N X) X ρ H (seqQ (fun ρ H => J (mapN ρ (bits n (live b N X))) H) Q)) (fun l H => vcC P top n b N X (envOf (bits n (live b N X)) l) H Q)
      | false => vcC P top n a (live b N X) X ρ H (seqQ (fun ρ H => vcC P top n b N X ρ H Q) Q)) := h
    have key : ∃ J : Env → Heap → Prop, vcC P top n a (live b N X) X ρ H (seqQ J Q) ∧ ∀ ρ1 T1 H1, T1.length = n → Agree (live b N X) ρ1 T1 → J ρ1 H1 → ∃ ρ2, Agree (live b N X) ρ2 T1 ∧ vcC P top n b N X ρ2 H1 Q := by
      split at h
      · obtain ⟨J, hA, hB⟩ := h
        grind[agree_bits]
      grind
    obtain ⟨J, hA, hB⟩ := key
    obtain ⟨m1, o1, h1, h2, ρ1, h3, h4⟩ := ia _ _ _ _ _ _ hl ha hA
    obtain ⟨e, T1, H1⟩ := o1
    cases e with
    | normal =>
      obtain ⟨ρ2, h5, h6⟩ := hB ρ1 T1 H1 h2 h3 h4
      obtain ⟨m2, o2, g1, g2, ρ3, g3, g4⟩ := ib _ _ _ _ _ _ h2 h5 h6
      refine ⟨max m1 m2, o2, ?_, g2, ρ3, g3, g4⟩
      show thenA ((codeC P top a).f (runO P (max m1 m2)) T H) (fun T H => (codeC P top b).f (runO P (max m1 m2)) T H) = some o2
      rw [codeC_le (run_le (Nat.le_max_left m1 m2)) top _ _ _ _ h1]
      exact codeC_le (run_le (Nat.le_max_right m1 m2)) top _ _ _ _ g1
    | exit id =>
      refine ⟨m1, ⟨.exit id, T1, H1⟩, ?_, h2, ρ1, h3, h4⟩
      grind[thenA,codeC]
    | ret =>
      refine ⟨m1, ⟨.ret, T1, H1⟩, ?_, h2, ρ1, h3, h4⟩
      grind[thenA,codeC]
  | cond c a b ia ib =>
    intro N X ρ T H Q hl ha h
    have ha : Agree (Nat.lor (rdO c) (Nat.lor (live a N X) (live b N X))) ρ T := ha
    obtain ⟨a1, a2⟩ := ha.or
    obtain ⟨a2, a3⟩ := a2.or
    obtain ⟨h1, h2, t, ht⟩ := (show wIf (ev c ρ) (vcC P top n a N X ρ H Q) (vcC P top n b N X ρ H Q) from h)
    cases t with
    | true =>
      grind[ifA,codeC,rdO_ok]
    | false =>
      grind[ifA,codeC,rdO_ok]
  | block id b ib =>
    intro N X ρ T H Q hl ha h
    obtain ⟨m, o, g1, g2, ρ', g3, g4⟩ := ib _ _ _ _ _ _ hl ha (h)
    obtain ⟨e, T1, H1⟩ := o
    have run1 : ∀ o', blockA id (some ⟨e, T1, H1⟩) = some o' → (codeC P top (.block id b)).f (runO P m) T H = some o' := fun o' ho => by
      grind[codeC]
    cases e with
    | normal => exact ⟨m, _, run1 _ rfl, g2, ρ', g3, g4⟩
    | ret => exact ⟨m, _, run1 _ rfl, g2, ρ', (g3).or.2, g4⟩
    | exit i =>
      have g4 : cond (Nat.beq i id) (Q .normal ρ' H1) (Q (.exit i) ρ' H1) := g4
      cases hb : Nat.beq i id with
      | true =>
        rw [hb] at g4
        refine ⟨m, ⟨.normal, T1, H1⟩, run1 _ ?_, g2, ρ', g3.or.1, g4⟩
        simp_all[blockA]
      | false =>
        rw [hb] at g4
        refine ⟨m, ⟨.exit i, T1, H1⟩, run1 _ ?_, g2, ρ', g3.or.2, g4⟩
        simp_all[blockA]
  | loop b _ =>
    intro N X ρ T H Q hl ha h
    have h : (match Nat.beq (live b (live b 0 X) X) (live b 0 X) with
      | true => wLoop P top n b X (mapN ρ (bits n (live b 0 X))) H (fun id l H => Q (.exit id) (envOf (bits n X) l) H) (fun l H => Q .ret (envOf (bits n X) l) H)
      | false => False) := h
    split at h
    case h_2 => grind
    case h_1 =>
    obtain ⟨m, o, g1, g2, l, g4, g5⟩ := h T hl (envOf_agreeK ha)
    have := agree_of_K g2 g4
    obtain ⟨e, T1, H1⟩ := o
    cases e with
    | normal => exact (g5).elim
    | exit id => exact ⟨m, _, g1, g2, envOf (bits n X) l, this, g5⟩
    | ret => exact ⟨m, _, g1, g2, envOf (bits n X) l, this, g5⟩
  | exit id => intro N X ρ T H Q hl ha h; exact ⟨0, _, rfl, hl, ρ, ha, h⟩
  | label l => intro N X ρ T H Q hl ha h; exact ⟨0, _, rfl, hl, ρ, ha, h⟩
  | ret => intro N X ρ T H Q hl ha h; exact ⟨0, _, rfl, hl, ρ, ha, h⟩
  | rangeFunc g ps asg body _ _ =>
    intro N X ρ T H Q hl ha h
    cases top with
    | false => exact (h).elim
    | true =>
      obtain ⟨a1, a2⟩ := ha.or
      obtain ⟨a2, a3⟩ := a2.or
      obtain ⟨a2, a4⟩ := a2.or
      obtain ⟨m, o, g1, g2, g3⟩ := h T hl (envOf_agreeK a3)
      have hg : (evT g).g T = evR g ρ := by
        cases g with
        | tmp t => exact a1 t (by show bitB (Nat.shiftLeft 1 t) t = true; rw [bit_one]; simp)
        | _ => rfl
      refine ⟨m, o, ?_, by simp_all, ρ, ?_, ?_⟩
      · show rangeA (runO P m) ((evT g).g T) ps.toList asg body T H = some o
        simp_all
      · rw [g2]
        cases o.ex with
        | normal => exact a2
        | exit id => exact a4
        | ret => exact a4
      · revert g3
        cases o.ex with
        | normal => exact fun h => h
        | exit id => exact fun h => h
        | ret => exact fun h => h
  | _ => intros; rename_i h; exact h.elim
theorem loop_ind {top : Bool} {n : Nat} {b : Code} {X : Nat} {Qx : Nat → List Value → Heap → Prop} {Qr : List Value → Heap → Prop} (hfix : live b (live b 0 X) X = live b 0 X) (I : Nat → List Value → Heap → Prop)
    (hs : ∀ k l H, I k l H → vcC P top n b (live b 0 X) X (envOf (bits n (live b 0 X)) l) H (loopQ n b X (fun l H => ∃ k', k' < k ∧ I k' l H) Qx Qr)) : ∀ k l H, I k l H → wLoop P top n b X l H Qx Qr := by
  intro k
  induction k using Nat.strongRecOn with
  | ind k ih =>
    intro l H hI T hl ha
    obtain ⟨m, o, h1, h2, ρ', h3, h4⟩ := vcC_ok top n b _ _ _ T H _ hl (by simp_all[agree_of_K]) (hs k l H hI)
    obtain ⟨e, T1, H1⟩ := o
    have stop : e ≠ .normal → exQ Qx Qr e (mapN ρ' (bits n X)) H1 → Agree X ρ' T1 → ∃ m o, runO P m (.loop top b T H) = some o ∧ o.T.length = n ∧ ∃ l, AgreeK (bits n X) (envOf (bits n X) l) o.T ∧ exQ Qx Qr o.ex l o.H := by
      intro he hq hag
      refine ⟨m + 1, ⟨e, T1, H1⟩, ?_, h2, _, envOf_agreeK hag, hq⟩
      show thenA ((codeC P top b).f (runO P m) T H) (fun T H => runO P m (.loop top b T H)) = _
      rw [h1]
      cases e <;> first | exact absurd rfl he | rfl
    cases e with
    | normal =>
      obtain ⟨k', hk, hI'⟩ := h4
      obtain ⟨m2, o2, g1, g2⟩ := ih k' hk _ _ hI' T1 h2 (envOf_agreeK h3)
      refine ⟨max m m2 + 1, o2, ?_, g2⟩
      show thenA ((codeC P top b).f (runO P (max m m2)) T H) (fun T H => runO P (max m m2) (.loop top b T H)) = _
      rw [codeC_le (run_le (Nat.le_max_left m m2)) top _ _ _ _ h1]
      exact run_le (Nat.le_max_right m m2) _ _ g1
    | exit id => exact stop (by simp) h4 h3
    | ret => exact stop (by simp) h4 h3
theorem res1_ok {r : ResultVar} {ρ : Env} {T : List Value} {H : Heap} {K : Value → Prop} (ha : Agree (rdR r) ρ T) (h : res1 P r ρ H K) : ∃ v, resultOne P T H r = some v ∧ K v := by
  cases r with
  | tmp t => exact ⟨nth T t, rfl, by rw [ha t (by show bitB (Nat.shiftLeft 1 t) t = true; rw [bit_one]; simp)]; exact h⟩
  | cell a t =>
    obtain ⟨v, H', h1, h2⟩ := h
    refine ⟨v, ?_, h2⟩
    unfold resultOne
    simp only [ha a (by show bitB (Nat.shiftLeft 1 a) a = true; rw [bit_one]; simp), h1]
theorem resL_ok {ρ : Env} {T : List Value} {H : Heap} : ∀ (rs : List ResultVar) (k : List Value → Prop), Agree (rdRes rs) ρ T → resL P rs ρ H k → ∃ vs, resultsL P T H rs = some vs ∧ k vs
  | [], k, _, h => ⟨[], rfl, h⟩
  | r :: rs, k, ha, h => by
    obtain ⟨a1, a2⟩ := (ha).or
    obtain ⟨v, h1, h2⟩ := res1_ok a1 (show res1 P r ρ H fun v => resL P rs ρ H fun vs => k (v :: vs) from h)
    obtain ⟨vs, h3, h4⟩ := resL_ok rs _ a2 h2
    exact ⟨v :: vs, by unfold resultsL; simp only [h1, h3], h4⟩
theorem resW_ok {rs : List ResultVar} {ρ : Env} {T : List Value} {H : Heap} {K : Value → Heap → Prop} (ha : Agree (rdRes rs) ρ T) (h : resW P rs ρ H K) : ∃ v, resultsA P rs T H = some v ∧ K v H := by
  unfold resW at h
  unfold resultsA
  split at h
  · obtain ⟨a1, _⟩ := (ha).or
    exact res1_ok a1 h
  grind[resL_ok]
theorem wCall_of_vcF {f : FuncId} {args : List Value} {H : Heap} {K : Value → Heap → Prop} (hno : Orc.tab f args H = none) (h : vcF P f args H K) (hb : Orc.bod f = none := by rfl) : wCall P f args H K := by
  unfold vcF at h
  split at h
  case h_2 => grind
  case h_1 fn hf =>
  split at h
  case h_2 => grind
  case h_1 c hc =>
  split at h
  case h_2 => grind
  case h_1 hlen =>
  have hT : (appN args (repl (fn.ntmps - lenN args) [undef])).length = fn.ntmps := by
    simp_all[appN_eq,repl1_eq,lenN_eq]
  have hn : ∀ i, nth (appN args (repl (fn.ntmps - lenN args) [undef])) i = nth args i := by
    grind[appN_eq,repl1_eq,nth_eq]
  obtain ⟨m, o, h1, h2, ρ', h3, h4⟩ := vcC_ok true fn.ntmps c _ _ _ _ H _ hT (fun i _ => hn i) h
  obtain ⟨e, T1, H1⟩ := o
  have fin : e ≠ .exit 0 → (∀ id, e ≠ .exit id) → Agree (rdRes fn.results.toList) ρ' T1 → resW P fn.results.toList ρ' H1 K → wCall P f args H K := by
    intro _ hx hag hr
    obtain ⟨v, g1, g2⟩ := resW_ok hag hr
    refine ⟨m + 1, .ret, v, H1, ?_, g2⟩
    show (match Orc.tab f args H with | some v => some (⟨.ret, [v], H⟩ : Out) | none => match Orc.bod f with | some c => fnW P f c (runO P m) args H | none => (fnC P f).f (runO P m) args H) = _
    simp_all[fnC,endA]
  cases e with
  | normal => exact fin (by simp) (by simp) h3 h4
  | exit id => exact (h4).elim
  | ret => exact fin (by simp) (by simp) h3 h4
end
end Go.Ab
namespace Go.Ab
open Go
variable {A B H H' K K' P a args b b' c cs cs' f i k l n o op p q r s size t v vs Γ Δ} {α : Type}
local instance : Base := ⟨fun _ => none, 0⟩
set_option linter.unusedVariables false
set_option linter.unusedSectionVars false
abbrev ptr (p o : Nat) : Value := .pointer (some ⟨p, o, none⟩)
abbrev int (n : Int) : Value := .int .i64 n
abbrev sl (p o n c : Nat) : Value := .slice (some ⟨p, o, none⟩) n c
abbrev nilSl : Value := .slice none 0 0
section pure
theorem opW_some : opW (some (v, H)) K = K v H := by
  grind[opW]
theorem wIf_true : wIf (.bool true) A B = A := by
  simp_all[wIf]
theorem wIf_false : wIf (.bool false) A B = B := by
  simp_all[wIf]
theorem wIf_intro (h1 : b = true → A) (h2 : b = false → B) : wIf (.bool b) A B :=
  ⟨fun e => h1 (by grind), fun e => h2 (by grind), b, rfl⟩
theorem wIf_dec {p : Prop} {A : Prop} {B : Prop} [Decidable p] (h1 : p → A) (h2 : ¬ p → B) : wIf (.bool (decide p)) A B :=
  wIf_intro (fun h => h1 (of_decide_eq_true h)) (fun h => h2 (of_decide_eq_false h))
theorem pick_true : pickA (.bool true) a b = some a := rfl
theorem pick_false : pickA (.bool false) a b = some b := rfl
theorem nilCheck_ptr : nilCheckA (.pointer (some a)) = some (.pointer (some a)) := rfl
theorem offPtr_ptr : offPtr o (ptr p q) = some (ptr p (q + o)) := rfl
theorem nth_zero : nth (v :: l) 0 = v := rfl
theorem nth_succ : nth (v :: l) (n + 1) = nth l n := rfl
theorem lenSl_sl : lenSl (.slice a n c) H = some (.int .i64 n, H) := rfl
theorem kindB_self : kindB k k = true := by cases k <;> rfl
theorem binC_int (a b : Int) (h : isShift op = none) : (binC P op t c).f (.int k a) (.int k b) = intF op k a b := by
  simp_all[binC,kindB_self]
theorem bin_add : (binC P .add t c).f (.int k a) (.int k b) = some (.int k (wrapA k (a + b))) := binC_int a b rfl
theorem bin_sub : (binC P .sub t c).f (.int k a) (.int k b) = some (.int k (wrapA k (a - b))) := binC_int a b rfl
theorem bin_mul : (binC P .mul t c).f (.int k a) (.int k b) = some (.int k (wrapA k (a * b))) := binC_int a b rfl
theorem bin_eql : (binC P .eql t c).f (.int k a) (.int k b) = some (.bool (decide (a = b))) := by rw [binC_int a b rfl]; show some (Value.bool (eqB a b)) = _; rw [eqB_eq]
theorem bin_neq : (binC P .neq t c).f (.int k a) (.int k b) = some (.bool (decide (a ≠ b))) := by rw [binC_int a b rfl]; show some (Value.bool (not (eqB a b))) = _; rw [eqB_eq]; simp
theorem bin_lss : (binC P .lss t c).f (.int k a) (.int k b) = some (.bool (decide (a < b))) := by
  rw [binC_int a b rfl]; show some (Value.bool (not (leB b a))) = _; grind[leB_eq]
theorem bin_gtr : (binC P .gtr t c).f (.int k a) (.int k b) = some (.bool (decide (b < a))) := by
  rw [binC_int a b rfl]; show some (Value.bool (not (leB a b))) = _; grind[leB_eq]
theorem bin_leq : (binC P .leq t c).f (.int k a) (.int k b) = some (.bool (decide (a ≤ b))) := by rw [binC_int a b rfl]; show some (Value.bool (leB a b)) = _; rw [leB_eq]
theorem bin_geq : (binC P .geq t c).f (.int k a) (.int k b) = some (.bool (decide (b ≤ a))) := by rw [binC_int a b rfl]; show some (Value.bool (leB b a)) = _; rw [leB_eq]
theorem un_not : unA .not (.bool b) = some (.bool !b) := rfl
theorem min_two : minA [.int k a, .int k b] = some (.int k (min a b)) := by
  show some (Value.int k (cond (leB a b) a b)) = _
  grind[leB_eq]
theorem max_two : maxA [.int k a, .int k b] = some (.int k (max a b)) := by
  show some (Value.int k (cond (leB b a) a b)) = _
  grind[leB_eq]
theorem wrap_i (h1 : -9223372036854775808 ≤ n) (h2 : n ≤ 9223372036854775807) : wrapA .i64 n = n := by
  show signedW 9223372036854775808 18446744073709551616 n = n
  unfold signedW
  cases n with
  | ofNat m =>
    grind[blt_eq]
  | negSucc m =>
    grind[blt_eq]
theorem idxSl_ok {n : Nat} {i : Int} (h0 : 0 ≤ i) (h1 : i < n) : idxSl size (sl p o n c) (.int k i) = some (ptr p (o + i.toNat * size)) := by
  show idxPtr n size (ptr p o) (.int k i) = _
  unfold idxPtr
  have e1 : leB 0 i = true := by simp_all[leB_eq]
  have e2 : Nat.blt i.toNat n = true := by simp_all
  simp only [e1, e2]
  rfl
theorem idxPtr_ok {n : Nat} {i : Int} (h0 : 0 ≤ i) (h1 : i < n) : idxPtr n size (ptr p o) (.int k i) = some (ptr p (o + i.toNat * size)) := by
  unfold idxPtr
  have e1 : leB 0 i = true := by simp_all[leB_eq]
  have e2 : Nat.blt i.toNat n = true := by simp_all
  simp only [e1, e2]
  rfl
end pure
namespace Tr
def In : Tr α → Nat → Prop
  | .nil, _ => False
  | .node _ _ _, 0 => True
  | .node l _ r, k + 1 => if k % 2 = 0 then In l (k / 2) else In r (k / 2)
def Up (t : Tr α) (N : Nat) : Prop := ∀ m, m < N → In t m
theorem set_succ (l r : Tr α) (x v : Option α) (n : Nat) : (Tr.node l x r).set (n + 1) v = if n % 2 = 0 then .node (l.set (n / 2) v) x r else .node l x (r.set (n / 2) v) := by
  have e : (Tr.node l x r).set (n + 1) v = cond (Nat.beq (Nat.mod n 2) 0) (.node (l.set (Nat.div n 2) v) x r) (.node l x (r.set (Nat.div n 2) v)) := brec
  rw [e]
  cases h : Nat.beq (Nat.mod n 2) 0 with
  | true => rw [if_pos (show n % 2 = 0 from Nat.eq_of_beq_eq_true h)]; rfl
  | false => rw [if_neg (show ¬ n % 2 = 0 from Nat.ne_of_beq_eq_false h)]; rfl
theorem get_succ (l r : Tr α) (x : Option α) (n : Nat) : (Tr.node l x r).get (n + 1) = if n % 2 = 0 then l.get (n / 2) else r.get (n / 2) := by
  rw [get_node_succ]
  cases h : Nat.beq (Nat.mod n 2) 0 with
  | true => rw [if_pos (show n % 2 = 0 from Nat.eq_of_beq_eq_true h)]; rfl
  | false => rw [if_neg (show ¬ n % 2 = 0 from Nat.ne_of_beq_eq_false h)]; rfl
theorem in_set (t : Tr α) (n m : Nat) (v : Option α) (h : In t m) : In (t.set n v) m := by
  induction t generalizing n m with
  | nil => exact h.elim
  | node l x r il ir =>
    cases n with
    | zero => cases m <;> exact h
    | succ n =>
      rw [set_succ]
      cases m with
      | zero => split <;> exact trivial
      | succ m =>
        have h : (if m % 2 = 0 then In l (m / 2) else In r (m / 2)) := h
        split
        · show (if m % 2 = 0 then In (l.set (n / 2) v) (m / 2) else In r (m / 2))
          grind
        · show (if m % 2 = 0 then In l (m / 2) else In (r.set (n / 2) v) (m / 2))
          grind
theorem up_set (t : Tr α) (n : Nat) (v : Option α) (h : Up t n) : (t.set n v).get n = v ∧ In (t.set n v) n := by
  induction t generalizing n with
  | nil =>
    cases n with
    | zero => exact ⟨rfl, trivial⟩
    | succ n => exact (h 0 (Nat.succ_pos _)).elim
  | node l x r il ir =>
    cases n with
    | zero => exact ⟨rfl, trivial⟩
    | succ n =>
      rw [set_succ]
      split
      · have hl : Up l (n / 2) := fun m hm => by
          have := h (2 * m + 1) (by omega)
          simp_all[In]
        simp_all[get_succ,In]
      · have hr : Up r (n / 2) := fun m hm => by
          have := h (2 * m + 2) (by omega)
          have : (if (2 * m + 1) % 2 = 0 then In l ((2 * m + 1) / 2) else In r ((2 * m + 1) / 2)) := this
          grind
        simp_all[get_succ,In]
end Tr
class LpC where
  l : List (Nat × Lp)
instance (priority := 1) lp0 : LpC := ⟨[]⟩
structure St [LpC] (H : Heap) (Γ : List (Nat × Blk)) : Prop where
  fl : H.floor = 0
  up : H.t.Up H.next
  nd : (Γ.map (·.1)).Nodup
  lt : ∀ x ∈ Γ, x.1 < H.next
  get : ∀ x ∈ Γ, (x.2.wr = true ∨ x.2.cells ≠ []) → H.get x.1 = some x.2
  lps : H.lps = LpC.l
  lpn : ∀ x ∈ (LpC.l : List (Nat × Lp)), x.1 < H.next
section st
variable [Orc] [LpC]
theorem St.at (h : St H Γ) (i : Nat) (hi : Γ[i]? = some (p, b)) (hx : b.wr = true ∨ b.cells ≠ []) : H.get p = some b := h.get (p, b) (List.mem_of_getElem? hi) hx
theorem St.sub (h : St H Γ) (hs : Δ.Sublist Γ) : St H Δ :=
  ⟨h.fl, h.up, h.nd.sublist (hs.map _), fun x hx => h.lt x (hs.subset hx), fun x hx => h.get x (hs.subset hx), h.lps, h.lpn⟩
theorem St.take (h : St H Γ) (n : Nat) : St H (Γ.take n) := h.sub (List.take_sublist n Γ)
theorem St.left (h : St H (Γ ++ Δ)) : St H Γ := h.sub (List.sublist_append_left Γ Δ)
theorem St.perm (h : St H Γ) (hp : Γ.Perm Δ) : St H Δ :=
  ⟨h.fl, h.up, (hp.map _).nodup_iff.1 h.nd, fun x hx => h.lt x (hp.mem_iff.2 hx), fun x hx => h.get x (hp.mem_iff.2 hx), h.lps, h.lpn⟩
theorem push_get_new (H : Heap) (hu : H.t.Up H.next) (cs : List Value) : (H.push cs).get H.next = some ⟨cs, true⟩ := (Tr.up_set _ _ _ hu).1
theorem push_get_old (H : Heap) (cs : List Value) (h : i ≠ H.next) : (H.push cs).get i = H.get i := Tr.get_set_other _ _ _ _ h
theorem St.push (h : St H Γ) (cs : List Value) : St (H.push cs) (Γ ++ [(H.next, ⟨cs, true⟩)]) := by
  refine ⟨h.fl, fun m hm => ?_, ?_, fun x hx => ?_, fun x hx hw => ?_, h.lps, fun x hx => Nat.lt_succ_of_lt (h.lpn x hx)⟩
  · by_cases he : m = H.next
    · subst he; exact (Tr.up_set _ _ _ h.up).2
    · have hm : m < H.next + 1 := hm
      exact Tr.in_set _ _ _ _ (h.up m (by omega))
  · rw [List.map_append, List.map_cons, List.map_nil, List.nodup_append]
    refine ⟨h.nd, by simp, fun a ha b hb => ?_⟩
    obtain ⟨x, hx, rfl⟩ := List.mem_map.1 ha
    have := h.lt x hx
    grind
  · show x.1 < H.next + 1
    rcases List.mem_append.1 hx with hx | hx
    · have := h.lt x hx; omega
    simp_all
  · rcases List.mem_append.1 hx with hx | hx
    · have := h.lt x hx
      rw [push_get_old H cs (by omega)]; exact h.get x hx hw
    · simp at hx; subst hx; exact push_get_new H h.up cs
theorem new_at (h : St H Γ) (hk : ∀ p H', St H' (Γ ++ [(p, ⟨cs, true⟩)]) → K (ptr p 0) H') : wNew cs H K := hk _ _ (h.push cs)
theorem loadOne_get (h : H.get p = some b) (hv : b.cells[o]? = some v) : loadOne (ptr p o) H = some (v, H) := by
  show withH H (readCell H p o) = _
  unfold readCell; rw [h]; simp only [atL_eq, hv]; rfl
theorem load_at (h : St H Γ) (i : Nat) (hi : Γ[i]? = some (p, b)) (hv : b.cells[o]? = some v) (hk : K v H) : opW (loadOne (ptr p o) H) K := by
  rw [loadOne_get (h.at i hi (.inr fun e => by simp_all)) hv, opW_some]; exact hk
theorem loadAgg_get (h : H.get p = some b) (hn : n ≤ b.cells.length - o) : loadAgg n (ptr p o) H = some (.agg ((b.cells.drop o).take n).toArray, H) := by
  simp_all[loadAgg,readCells_eq,takeN_eq,dropN_eq,cellsAt,lenN_eq]
theorem loadAgg_at (h : St H Γ) (i : Nat) (hi : Γ[i]? = some (p, b)) (hv : (b.cells.drop o).take n = cs) (hn : cs.length = n) (hp : 0 < n) (hk : K (.agg cs.toArray) H) : opW (loadAgg n (ptr p o) H) K := by
  subst hv
  rw [loadAgg_get (h.at i hi (.inr fun e => by simp_all)) (by grind), opW_some]; exact hk
theorem set_nodup {Γ : List (Nat × Blk)} (hi : Γ[i]? = some (p, b)) : (Γ.set i (p, b')).map (·.1) = Γ.map (·.1) := by
  apply List.ext_getElem?
  grind
theorem St.upd (h : St H Γ) (hi : Γ[i]? = some (p, b)) (hx : b.wr = true ∨ b.cells ≠ []) (b' : Blk) : St (H.set p (some b')) (Γ.set i (p, b')) := by
  have hm : ∀ x ∈ Γ.set i (p, b'), x = (p, b') ∨ (x ∈ Γ ∧ x.1 ≠ p) := by
    intro x hx
    obtain ⟨j, hj⟩ := List.mem_iff_getElem?.1 hx
    rw [List.getElem?_set] at hj
    by_cases he : i = j
    · simp_all
    · rw [if_neg he] at hj
      refine .inr ⟨List.mem_of_getElem? hj, fun e => he ?_⟩
      have n1 : (Γ.map (·.1))[i]? = some p := by simp_all
      have n2 : (Γ.map (·.1))[j]? = some p := by simp_all
      exact (List.getElem?_inj (by grind) h.nd).1 (n1.trans n2.symm)
  refine ⟨h.fl, fun m hm => Tr.in_set _ _ _ _ (h.up m hm), by rw [set_nodup hi]; exact h.nd, fun x hx => ?_, fun x hx hw => ?_, h.lps, h.lpn⟩
  · rcases hm x hx with rfl | ⟨hx, _⟩
    · exact h.lt (p, b) (List.mem_of_getElem? hi)
    · exact h.lt x hx
  · rcases hm x hx with rfl | ⟨hx, hne⟩
    · exact Tr.get_set_same _ _ _ _ (h.at i hi ‹_›)
    · exact (Tr.get_set_other _ _ _ _ hne).trans (h.get x hx hw)
theorem write_at (h : St H Γ) (hi : Γ[i]? = some (p, ⟨cs, true⟩)) (hn : o + vs.length ≤ cs.length) (h1 : vs.all oneCell = true) :
    ∃ H', writeCells H p o vs = some H' ∧ St H' (Γ.set i (p, ⟨cs.take o ++ (vs ++ cs.drop (o + vs.length)), true⟩)) := by
  refine ⟨_, ?_, h.upd hi (.inl rfl) _⟩
  rw [writeCells_eq]
  rw [h.at i hi (.inl rfl)]
  have e : (Heap.mayWrite H p ⟨cs, true⟩ && (Nat.ble (o + lenN vs) (lenN cs) && allN oneCell vs)) = true := by
    unfold Heap.mayWrite
    rw [h.fl]
    simp_all[lenN_eq,allN_eq]
  grind[appN_eq,takeN_eq,dropN_eq,lenN_eq]
theorem store_at (h : St H Γ) (i : Nat) (hi : Γ[i]? = some (p, ⟨cs, true⟩)) (hl : (cellsL v).length = n) (hn : o + n ≤ cs.length) (h1 : (cellsL v).all oneCell = true)
    (hk : ∀ H', St H' (Γ.set i (p, ⟨cs.take o ++ (cellsL v ++ cs.drop (o + n)), true⟩)) → K undef H') : opW (storeTo n (ptr p o) v H) K := by
  obtain ⟨H', hw, hs⟩ := write_at h (o := o) hi (by omega) h1
  simp_all[storeTo,lenN_eq,opW_some]
theorem store1_at (h : St H Γ) (i : Nat) (hi : Γ[i]? = some (p, ⟨cs, true⟩)) (h1 : oneCell v = true) (hn : o < cs.length) (hc : cs.set o v = cs')
    (hk : ∀ H', St H' (Γ.set i (p, ⟨cs', true⟩)) → K undef H') : opW (storeTo 1 (ptr p o) v H) K := by
  have hv : cellsL v = [v] := by cases v <;> first | rfl | (cases h1; done)
  refine store_at h i hi (by grind) (by omega) (by simp_all) fun H' hO => hk H' ?_
  have e : cs.take o ++ (cellsL v ++ cs.drop (o + 1)) = cs' := by
    rw [hv, ← hc]
    apply List.ext_getElem?
    intro j
    rw [List.getElem?_set]
    by_cases hj : j < o
    · grind
    · rw [List.getElem?_append_right (by grind), List.length_take, Nat.min_eq_left (by omega)]
      by_cases hj2 : j = o
      · simp_all
      · rw [List.getElem?_append_right (by grind), List.getElem?_drop, if_neg (Ne.symm hj2)]
        grind
  simp_all
def simple0 : Value → Bool
  | .bool _ => true
  | .int _ _ => true
  | .string _ => true
  | .pointer a => match a with | none => true | some a => a.spot.isNone
  | .slice a _ _ => match a with | none => true | some a => a.spot.isNone
  | .map _ => true
  | .nilFunc => true
  | .nilIface => true
  | _ => false
def isFnB : Fn → Bool
  | .func _ => true
  | _ => false
def simpleB : Value → Bool
  | .iface _ v => simple0 v
  | .func f a b => isFnB f && (a.toList.all simple0 && b.toList.all simple0)
  | v => simple0 v
theorem all2N_refl {p : α → α → Bool} : ∀ l : List α, (∀ x ∈ l, p x x = true) → all2N p l l = true
  | [], _ => rfl
  | x :: l, h => by
    show cond (p x x) (all2N p l l) false = true
    simp_all[all2N_refl]
theorem eqAddr_refl {a : Option Addr} (h : (match a with | none => true | some a => a.spot.isNone) = true) : eqAddr a a = true := by
  cases a with
  | none => rfl
  | some a =>
    obtain ⟨i, o, s⟩ := a
    cases s with
    | none => show (Nat.beq i i && Nat.beq o o) = true; simp_all
    | some _ => cases h
theorem eqCellW_simple0 (sub : Value → Value → Bool) (h : simple0 v = true) : eqCellW sub v v = true := by
  cases v <;> first | (cases h; done) | skip
  case bool b => cases b <;> rfl
  case int k n => show (kindB k k && eqB n n) = true; rw [kindB_self, eqB_eq]; simp
  case string s => show all2N eqByte s.data.toList s.data.toList = true; exact all2N_refl _ fun x _ => Nat.beq_refl _
  case pointer a => exact eqAddr_refl h
  case slice a n c => show (eqAddr a a && (Nat.beq n n && Nat.beq c c)) = true; rw [eqAddr_refl h, Nat.beq_refl, Nat.beq_refl]; rfl
  case map a => cases a with
    | none => rfl
    | some i => exact Nat.beq_refl i
  case nilFunc => rfl
  rfl
theorem eqCell_simple (h : simpleB v = true) : eqCell v v = true := by
  cases v <;> first | exact eqCellW_simple0 _ h | skip
  case iface t v => show (Nat.beq t t && eqCellW _ v v) = true; rw [Nat.beq_refl, eqCellW_simple0 _ h]; rfl
  case func f a b =>
    have h : (isFnB f && (a.toList.all simple0 && b.toList.all simple0)) = true := h
    rw [Bool.and_eq_true, Bool.and_eq_true, List.all_eq_true, List.all_eq_true] at h
    obtain ⟨h0, h1, h2⟩ := h
    cases f <;> first | (cases h0; done) | skip
    rename_i g
    show (Nat.beq g g && (all2N _ a.toList a.toList && all2N _ b.toList b.toList)) = true
    grind[Nat.beq_refl,all2N_refl,eqCellW_simple0]
theorem sameB_of (h : H.get p = some b) (h' : H'.get p = some b) (hs : b.cells.all simpleB = true) : sameB H H' p = true := by
  unfold sameB
  rw [h, h']
  simp only
  rw [all2N_refl _ fun x hx => eqCell_simple (List.all_eq_true.1 hs x hx)]
  cases b.wr <;> rfl
theorem same_nil : cSame s (idsOf []) := rfl
theorem same_cons (hp : s p = true) (h : cSame s (idsOf l)) : cSame s (idsOf (ptr p o :: l)) := by
  have e : idsOf (ptr p o :: l) = p :: idsOf l := rfl
  simp_all[cSame,allN_eq]
theorem same_at (h : St H Γ) (i : Nat) (hi : Γ[i]? = some (p, b)) (h' : St H' Δ) (j : Nat) (hj : Δ[j]? = some (p, b)) (hs : b.cells.all simpleB = true) (hx : b.wr = true ∨ b.cells ≠ [] := by exact .inl rfl) : cSame (sameB H H') (idsOf [ptr p o]) :=
  same_cons (sameB_of (h.at i hi hx) (h'.at j hj hx) hs) same_nil
theorem opP_i (h : r = some v) (hk : K v) : opP r K := ⟨v, h, hk⟩
theorem opW_i {r : R} (h : r = some (v, H')) (hk : K v H') : opW r K := ⟨v, H', h, hk⟩
theorem wIf_yes {p : Prop} {A : Prop} {B : Prop} [Decidable p] (h : p) (hA : A) : wIf (.bool (decide p)) A B := by simp_all[wIf_true]
theorem wIf_no {p : Prop} {A : Prop} {B : Prop} [Decidable p] (h : ¬ p) (hB : B) : wIf (.bool (decide p)) A B := by simp_all[wIf_false]
theorem pick_yes {p : Prop} {a : Value} {b : Value} [Decidable p] (h : p) : pickA (.bool (decide p)) a b = some a := by rw [decide_eq_true h]; rfl
theorem pick_no {p : Prop} {a : Value} {b : Value} [Decidable p] (h : ¬ p) : pickA (.bool (decide p)) a b = some b := by rw [decide_eq_false h]; rfl
theorem cond_yes {B : Prop} (h : b = true) (hA : A) : cond b A B := by simp_all
theorem cond_no {B : Prop} (h : b = false) (hB : B) : cond b A B := by simp_all
theorem bin_addi (h1 : -9223372036854775808 ≤ a + b) (h2 : a + b ≤ 9223372036854775807) : (binC P .add t c).f (.int .i64 a) (.int .i64 b) = some (.int .i64 (a + b)) := by rw [bin_add, wrap_i h1 h2]
theorem bin_subi (h1 : -9223372036854775808 ≤ a - b) (h2 : a - b ≤ 9223372036854775807) : (binC P .sub t c).f (.int .i64 a) (.int .i64 b) = some (.int .i64 (a - b)) := by rw [bin_sub, wrap_i h1 h2]
theorem bin_muli (h1 : -9223372036854775808 ≤ a * b) (h2 : a * b ≤ 9223372036854775807) : (binC P .mul t c).f (.int .i64 a) (.int .i64 b) = some (.int .i64 (a * b)) := by rw [bin_mul, wrap_i h1 h2]
theorem min_w : withH H (minA [.int k a, .int k b]) = some (.int k (min a b), H) := by rw [min_two]; rfl
theorem max_w : withH H (maxA [.int k a, .int k b]) = some (.int k (max a b), H) := by rw [max_two]; rfl
end st
end Go.Ab
namespace Go.Ab
open Go
variable {A B H K b bytes c cs i k k' m new o p size v x z Γ} {n : Nat}
local instance : Base := ⟨fun _ => none, 0⟩
set_option linter.unusedVariables false
set_option linter.unusedSectionVars false
section
variable [Orc] [LpC]
theorem wIf_t (h : b = true) (hA : A) : wIf (.bool b) A B := by simp_all[wIf_true]
theorem wIf_f (h : b = false) (hB : B) : wIf (.bool b) A B := by simp_all[wIf_false]
theorem newSl_at {r : R} (h : St H Γ) (hr : r = some (sl H.next 0 n c, H.push cs)) (hk : ∀ p H', St H' (Γ ++ [(p, ⟨cs, true⟩)]) → K (sl p 0 n c) H') : opW r K :=
  opW_i hr (hk _ _ (h.push cs))
def outB (v : Value) (cs : List Value) : List (Nat × Blk) := match v with
  | .slice (some a) _ _ => [(a.block, ⟨cs, true⟩)]
  | _ => []
def Own (size : Nat) (v : Value) (n : Nat) (cs : List Value) : Prop :=
  (v = nilSl ∧ n = 0 ∧ cs = []) ∨ (∃ p, (v = sl p 0 n (2 * size) ∨ v = sl p 0 n (2 * size + 1)) ∧ cs.length = n * size)
theorem Own.nil : Own size nilSl 0 [] := .inl ⟨rfl, rfl, rfl⟩
theorem Own.len (h : Own size v n cs) : cs.length = n * size := by
  rcases h with ⟨_, rfl, rfl⟩ | ⟨p, _, h⟩
  · simp
  · exact h
theorem Own.lenSl (h : Own size v n cs) : lenSl v H = some (.int .i64 n, H) := by
  rcases h with ⟨rfl, rfl, _⟩ | ⟨p, rfl | rfl, _⟩ <;> rfl
theorem St.erase (h : St H Γ) (hi : Γ[i]? = some (p, b)) : St (H.set p none) (Γ.eraseIdx i) := by
  have hm : ∀ x ∈ Γ.eraseIdx i, x ∈ Γ ∧ x.1 ≠ p := by
    intro x hx
    refine ⟨List.mem_of_mem_eraseIdx hx, fun e => ?_⟩
    obtain ⟨j, hj⟩ := List.mem_iff_getElem?.1 hx
    rw [List.getElem?_eraseIdx] at hj
    have n1 : (Γ.map (·.1))[i]? = some p := by simp_all
    have hlt : i < (Γ.map (·.1)).length := by grind
    split at hj
    · have n2 : (Γ.map (·.1))[j]? = some p := by simp_all
      have := (List.getElem?_inj hlt h.nd).1 (n1.trans n2.symm); omega
    · have n2 : (Γ.map (·.1))[j + 1]? = some p := by simp_all
      have := (List.getElem?_inj hlt h.nd).1 (n1.trans n2.symm); omega
  exact ⟨h.fl, fun m hm => Tr.in_set _ _ _ _ (h.up m hm), h.nd.sublist ((List.eraseIdx_sublist Γ i).map _), fun x hx => h.lt x (hm x hx).1,
    fun x hx hw => (Tr.get_set_other _ _ _ _ (hm x hx).2).trans (h.get x (hm x hx).1 hw), h.lps, h.lpn⟩
theorem elems_at (h : H.get p = some b) (hn : o + n * size ≤ b.cells.length) (hc : c = n) : elemsA H size n (sl p o c 0) = some ((b.cells.drop o).take (n * size)) := by
  unfold elemsA
  simp only
  split
  · simp_all
  grind[readCells_eq,cellsAt,takeN_eq,dropN_eq,lenN_eq,Nat.beq_refl]
theorem elems_sl (h : H.get p = some b) (hn : o + n * size ≤ b.cells.length) : elemsA H size n (sl p o n c) = some ((b.cells.drop o).take (n * size)) := elems_at h hn rfl
theorem room_of (h : n * bytes ≤ 140737488355328) (h2 : n ≤ 9223372036854775807) : roomB n bytes = true := by
  unfold roomB
  rw [Bool.and_eq_true, ble_eq, ble_eq]
  grind
end
end Go.Ab
namespace Go.Ab
open Go Go.ChangeShapes Go.WideShapes
variable {N a as as' b b' bs bs' c c' cs cs' l1 l2 ls ls' ts ts' v x σ τ} {w : World} {H : Type} {P : Program} {enc : TypeId × Value → H}
set_option linter.unusedVariables false
inductive ShpL (P : Program) : List TypeId → Nat → List Value → List (List Value) → Prop
  | nil {N : Nat} : ShpL P [] N [] []
  | bool {t : TypeId} {ts : List TypeId} {N : Nat} {c : List Value} {b : List (List Value)} (v : Bool) : P.underlying t = some .bool → ShpL P ts N c b → ShpL P (t :: ts) N (.bool v :: c) b
  | int {t : TypeId} {ts : List TypeId} {N : Nat} {c : List Value} {b : List (List Value)} {k : IntKind} (v : Int) : P.underlying t = some (.int k) → (Lit.int k v).wf = true → ShpL P ts N c b → ShpL P (t :: ts) N (.int k v :: c) b
  | str {t : TypeId} {ts : List TypeId} {N : Nat} {c : List Value} {b : List (List Value)} (v : ByteArray) : P.underlying t = some .string → v.size ≤ maxLen → ShpL P ts N c b → ShpL P (t :: ts) N (.string v :: c) b
  | slNil {t e : TypeId} {ts : List TypeId} {N : Nat} {c : List Value} {b : List (List Value)} : P.underlying t = some (.slice e) → ShpL P ts N c b → ShpL P (t :: ts) N (.slice none 0 0 :: c) b
  | sl {t e : TypeId} {ts : List TypeId} {N : Nat} {c cells : List Value} {b bs : List (List Value)} (len : Nat) : P.underlying t = some (.slice e) → len ≤ maxLen → cells.length = len * P.cellsOf e → ShpL P (List.replicate len e) (N + 1) cells bs → ShpL P ts (N + 1 + bs.length) c b →
      ShpL P (t :: ts) N (.slice (some ⟨N, 0, none⟩) len (2 * P.cellsOf e) :: c) (cells :: (bs ++ b))
  | struct {t : TypeId} {fs : Array Field} {ts : List TypeId} {N : Nat} {c : List Value} {b : List (List Value)} : P.underlying t = some (.struct fs) → ShpL P (fs.toList.map (·.type) ++ ts) N c b → ShpL P (t :: ts) N c b
  | array {t e : TypeId} {n : Nat} {ts : List TypeId} {N : Nat} {c : List Value} {b : List (List Value)} : P.underlying t = some (.array n e) → ShpL P (List.replicate n e ++ ts) N c b → ShpL P (t :: ts) N c b
theorem ShpL.append (h : ShpL P ts N c b) (h' : ShpL P ts' (N + b.length) c' b') : ShpL P (ts ++ ts') N (c ++ c') (b ++ b') := by
  induction h with
  | nil => exact h'
  | bool v hu _ ih => exact .bool v hu (ih h')
  | int v hu hw _ ih => exact .int v hu hw (ih h')
  | str v hu hw _ ih => exact .str v hu hw (ih h')
  | slNil hu _ ih => exact .slNil hu (ih h')
  | @sl t e ts N c cells b bs len hu hm hl h1 h2 _ ih =>
    have e1 : (cells :: (bs ++ b)) ++ b' = cells :: (bs ++ (b ++ b')) := by simp
    rw [e1]
    refine .sl len hu hm hl h1 (ih ?_)
    grind
  | struct hu _ ih => refine .struct hu ?_; simp_all
  | array hu _ ih => refine .array hu ?_; simp_all
def contigB (P : Program) : List Field → Nat → Bool
  | [], _ => true
  | f :: fs, o => Nat.beq f.offset o && contigB P fs (o + P.cellsOf f.type)
def sumB (P : Program) : List Field → Nat
  | [] => 0
  | f :: fs => P.cellsOf f.type + sumB P fs
def supB (P : Program) : Nat → TypeId → Bool
  | 0, _ => false
  | d + 1, t => match P.underlying t with
    | some .bool => Nat.beq (P.cellsOf t) 1
    | some (.int _) => Nat.beq (P.cellsOf t) 1
    | some .string => Nat.beq (P.cellsOf t) 1
    | some (.slice e) => Nat.beq (P.cellsOf t) 1 && (Nat.blt 0 (P.cellsOf e) && supB P d e)
    | some (.struct fs) => contigB P fs.toList 0 && (Nat.beq (sumB P fs.toList) (P.cellsOf t) && fs.toList.all fun f => supB P d f.type)
    | some (.array n e) => Nat.beq (n * P.cellsOf e) (P.cellsOf t) && supB P d e
    | _ => false
def locF (N : Nat) (ls : List (Nat × Nat × Nat)) : Loc := fun id => if N ≤ id then ls[id - N]? else none
theorem locF_left : ∀ id x, locF N l1 id = some x → locF N (l1 ++ l2) id = some x := by
  intro id x h
  unfold locF at h ⊢
  grind
theorem locF_right : ∀ id x, locF (N + l1.length) l2 id = some x → locF N (l1 ++ l2) id = some x := by
  intro id x h
  unfold locF at h ⊢
  grind
def BlkAt (σ : Loc) (w : World) (b : List Value) (x : Nat × Nat × Nat) : Prop :=
  b ≠ [] → ∃ arr ty fr, w.heap[x.1]? = some (.cells arr ty fr) ∧ arr.size = x.2.2 ∧ x.2.1 + b.length ≤ x.2.2 ∧ VRs σ b ((arr.toList.drop x.2.1).take b.length)
structure Opened (P : Program) (w : World) (ts : List TypeId) (N : Nat) (cs as : List Value) (bs : List (List Value)) (ls : List (Nat × Nat × Nat)) : Prop where
  shp : ShpL P ts N as bs
  len : ls.length = bs.length
  vr : VRs (locF N ls) as cs
  at' : ∀ (i : Nat) (b : List Value) (x : Nat × Nat × Nat), bs[i]? = some b → ls[i]? = some x → BlkAt (locF N ls) w b x
theorem BlkAt.mono (hm : ∀ id x, σ id = some x → τ id = some x) (h : BlkAt σ w b x) : BlkAt τ w b x := fun hb => by
  obtain ⟨arr, ty, fr, h1, h2, h3, h4⟩ := h hb
  exact ⟨arr, ty, fr, h1, h2, h3, h4.mono hm⟩
section
theorem Opened.none : Opened P w [] N [] [] [] [] := ⟨.nil, rfl, .nil, fun i b x h => by simp at h⟩
theorem Opened.append (h : Opened P w ts N cs as bs ls) (h' : Opened P w ts' (N + bs.length) cs' as' bs' ls') :
    Opened P w (ts ++ ts') N (cs ++ cs') (as ++ as') (bs ++ bs') (ls ++ ls') := by
  have hr : ∀ id x, locF (N + bs.length) ls' id = some x → locF N (ls ++ ls') id = some x := by rw [← h.len]; exact locF_right
  refine ⟨h.shp.append h'.shp, by rw [List.length_append, List.length_append, h.len, h'.len], (h.vr.mono locF_left).append (h'.vr.mono hr), fun i b x hb hx => ?_⟩
  by_cases hi : i < bs.length
  · rw [List.getElem?_append_left hi] at hb
    rw [List.getElem?_append_left (by rw [h.len]; exact hi)] at hx
    exact (h.at' i b x hb hx).mono locF_left
  · rw [List.getElem?_append_right (by omega)] at hb
    rw [List.getElem?_append_right (by rw [h.len]; omega), h.len] at hx
    exact (h'.at' _ b x hb hx).mono hr
end
end Go.Ab
namespace Go.Ab
open Go Go.ChangeShapes Go.WideShapes Go.RowKit
variable {args base d f p r t ts v} {H : Type} {P : Program} {W : World} {enc : TypeId × Value → H} {ds : List (DataW H)}
set_option linter.unusedVariables false
noncomputable def lay (H : Heap) (bs : List (List Value)) : Heap := match bs with
  | [] => H
  | b :: r => lay ⟨H.t.set H.next (match b with | [] => none | _ :: _ => some ⟨b, false⟩), Nat.succ H.next, H.floor, H.lps⟩ r
section
end
theorem start_up : ∀ n, (start n).t.Up n
  | 0 => fun m hm => absurd hm (Nat.not_lt_zero _)
  | n + 1 => fun m hm => by
    have e : (start (n + 1)).t = (start n).t.set n none := rfl
    by_cases h : m = n
    · simp_all[Tr.up_set,start_up]
    · exact Tr.in_set _ _ _ _ (start_up n m (by omega))
noncomputable def optB (b : List Value) : Option Blk := match b with | [] => none | _ :: _ => some ⟨b, false⟩
theorem lay_cons (H : Heap) (b : List Value) (r : List (List Value)) : lay H (b :: r) = lay ⟨H.t.set H.next (optB b), Nat.succ H.next, H.floor, H.lps⟩ r := rfl
structure Laid (H : Heap) (bs : List (List Value)) (H' : Heap) : Prop where
  next : H'.next = H.next + bs.length
  floor : H'.floor = H.floor
  lps : H'.lps = H.lps
  up : H.t.Up H.next → H'.t.Up H'.next
  old : ∀ i, i < H.next → H'.get i = H.get i
  new : H.t.Up H.next → ∀ j b, bs[j]? = some b → H'.get (H.next + j) = optB b
  out : ∀ i b, H'.get i = some b → H.get i = some b ∨ ∃ j c, i = H.next + j ∧ bs[j]? = some c ∧ optB c = some b
theorem lay_ok : ∀ (bs : List (List Value)) (H : Heap), Laid H bs (lay H bs)
  | [], H => ⟨rfl, rfl, rfl, fun h => h, fun _ _ => rfl, fun _ j b h => by simp at h, fun i b h => .inl h⟩
  | b :: r, H => by
    have ih := lay_ok r ⟨H.t.set H.next (optB b), Nat.succ H.next, H.floor, H.lps⟩
    rw [lay_cons]
    have hup : H.t.Up H.next → (H.t.set H.next (optB b)).Up (Nat.succ H.next) := fun hu m hm => by
      by_cases h : m = H.next
      · subst h; exact (Tr.up_set _ _ _ hu).2
      · exact Tr.in_set _ _ _ _ (hu m (by omega))
    refine ⟨by rw [ih.next]; simp only [List.length_cons]; omega, ih.floor, ih.lps, fun hu => ih.up (hup hu), fun i hi => ?_, fun hu j c hj => ?_, fun i x hx => ?_⟩
    · rw [ih.old i (by show i < Nat.succ H.next; omega)]
      exact Tr.get_set_other _ _ _ _ (by omega)
    · cases j with
      | zero =>
        simp at hj; subst hj
        rw [ih.old (H.next + 0) (by show _ < Nat.succ H.next; omega)]
        exact (Tr.up_set _ _ _ hu).1
      | succ j =>
        have := ih.new (hup hu) j c (by simpa using hj)
        rw [show H.next + (j + 1) = Nat.succ H.next + j by omega]; exact this
    · rcases ih.out i x hx with h | ⟨j, c, h1, h2, h3⟩
      · rcases Tr.get_set _ _ _ _ _ h with ⟨e1, e2⟩ | ⟨_, e2⟩
        · exact .inr ⟨0, b, e1, by simp, e2⟩
        · exact .inl e2
      · exact .inr ⟨j + 1, c, by rw [h1]; show Nat.succ H.next + j = _; omega, by simpa using h2, h3⟩
def argG (N : Nat) : List (List Value) → List (Nat × Blk)
  | [] => []
  | b :: r => (N, ⟨b, false⟩) :: argG (N + 1) r
theorem argG_mem : ∀ (bs : List (List Value)) (N : Nat) (x : Nat × Blk), x ∈ argG N bs → ∃ (j : Nat) (b : List Value), bs[j]? = some b ∧ x = (N + j, ⟨b, false⟩)
  | [], N, x, h => by cases h
  | b :: r, N, x, h => by
    rcases List.mem_cons.1 h with rfl | h
    · exact ⟨0, b, by simp, rfl⟩
    · obtain ⟨j, c, h1, h2⟩ := argG_mem r (N + 1) x h
      exact ⟨j + 1, c, by simpa using h1, by rw [h2]; congr 1; omega⟩
theorem argG_nodup : ∀ (bs : List (List Value)) (N : Nat), ((argG N bs).map (·.1)).Nodup
  | [], N => .nil
  | b :: r, N => by
    refine List.nodup_cons.2 ⟨fun h => ?_, argG_nodup r (N + 1)⟩
    obtain ⟨x, hx, e⟩ := List.mem_map.1 h
    obtain ⟨j, c, _, rfl⟩ := argG_mem r (N + 1) x hx
    simp at e; omega
theorem st_args (G : Nat) (bs : List (List Value)) : St (lay (start G) bs) (argG G bs) := by
  have h := lay_ok bs (start G)
  refine ⟨by rw [h.floor]; rfl, h.up (start_up G), argG_nodup bs G, fun x hx => ?_, fun x hx hw => ?_, h.lps, fun x hx => (by cases hx)⟩
  · obtain ⟨j, b, h1, rfl⟩ := argG_mem bs G x hx
    rw [h.next]
    have := (List.getElem?_eq_some_iff.1 h1).1
    show G + j < G + bs.length; omega
  · obtain ⟨j, b, h1, rfl⟩ := argG_mem bs G x hx
    have : (lay (start G) bs).get (G + j) = optB b := h.new (start_up G) j b h1
    rcases hw with hw | hw
    · cases hw
    · rw [this]
      cases b with
      | nil => simp_all
      | cons _ _ => rfl
section
variable [Orc]
omit [Orc] in
theorem trodAll_len {base : Nat} {sp : Nat → Bool} {hd : Bool} : ∀ {ts : List TypeId} {vs : List Value} {ds : List (DataW H)} {p : List MemPlace}, DataW.TrodAll enc P W base sp hd ts vs ds p → ds.length = ts.length
  | [], [], [], _, _ => rfl
  | [], [], _ :: _, _, h => h.elim
  | [], _ :: _, _, _, h => h.elim
  | _ :: _, [], _, _, h => h.elim
  | _ :: _, _ :: _, [], _, h => h.elim
  | _ :: _, _ :: _, _ :: _, _, ⟨_, _, _, h, _⟩ => by simp [trodAll_len h]
omit [Orc] in
theorem trodAll_below (hl : laidOutB P = true) {W' : World} (hb : RowKit.Below W.heap.size W W') : ∀ (ts : List TypeId) (vs : List Value) (ds : List (DataW H)) (p : List MemPlace), (∀ t ∈ ts, P.readableRec t = true ∧ t < P.types.size) →
    DataW.TrodAll enc P W 0 (fun _ => true) true ts vs ds p → (∀ x ∈ p, x.block < W.heap.size) → DataW.TrodAll enc P W' 0 (fun b => decide (b < W.heap.size)) true ts vs ds p
  | [], [], [], p, _, h, _ => h
  | [], [], _ :: _, p, _, h, _ => h.elim
  | [], _ :: _, _, p, _, h, _ => h.elim
  | _ :: _, [], _, p, _, h, _ => h.elim
  | _ :: _, _ :: _, [], p, _, h, _ => h.elim
  | t :: ts, v :: vs, d :: ds, p, hr, ⟨p1, q1, h1, h2, e⟩, hlt => by
    subst e
    obtain ⟨r1, r2⟩ := hr t (by simp)
    exact ⟨p1, q1, RowKit.Below.trod hl r1 r2 h1 hb fun x hx => hlt x (by simp [hx]), trodAll_below hl hb ts vs ds q1 (fun t ht => hr t (by simp [ht])) h2 fun x hx => hlt x (by simp [hx]), rfl⟩
omit [Orc] in
theorem post_law {f : Func} {s : ChangeSpec} {apart : Bool} {fresh : Bool} {handsOn : Bool} {W' : World} {args : Array Value} {v : Value} {gs : List (DataW H)} {before : List MemPlace} (hl : laidOutB P = true)
    (hrd : ∀ t ∈ f.params.toList, P.readableRec t = true ∧ t < P.types.size) (hsv : s.vars = []) (hW : DataW.Whole enc P f.params.toList s.vars apart W args.toList ds gs before) (hb : RowKit.Below W.heap.size W W')
    (hres : ∀ (b : Nat) (sp : Nat → Bool) (hd : Bool), DataW.TrodAll enc P W' b sp hd f.resultTypes.toList (v.resultList f.resultTypes.size) (s.fn H (ds ++ gs)).results [])
    (hargs : (s.fn H (ds ++ gs)).args = ds) (hvars : (s.fn H (ds ++ gs)).vars = []) : s.post enc P f apart fresh handsOn false W args v W' := by
  have hlt := fun x hx => hW.lt x hx
  have hW0 := hW
  obtain ⟨p, q, h1, h2, rfl, h3, h4⟩ := hW
  rw [hsv] at h2
  obtain ⟨rfl, rfl⟩ := trodVars_none h2
  refine ⟨ds, [], _, [], p, [], hW0, hres _ _ _, ?_, ?_, hb.frame _, fun h => by cases h⟩
  · simp_all[trodAll_below]
  · rw [hsv, hvars]; exact rfl
end
end Go.Ab
namespace Go.Ab
open Go
variable {F0 F1 H N as b c e k n ts v xs Δ} {Γ L : List (Nat × Blk)} {x : Nat × Blk} {P : Program} {t : TypeId} {a : Bool}
local instance : Base := ⟨fun _ => none, 0⟩
set_option linter.unusedVariables false
set_option linter.unusedSectionVars false
section
variable [Orc] [LpC]
omit [Orc] in
theorem at_r {k : Nat} (h : L[k]? = some x) : (Γ ++ L)[Γ.length + k]? = some x := by
  grind
omit [Orc] in
theorem at_l {j : Nat} (h : Γ[j]? = some x) : (Γ ++ L)[j]? = some x := by
  grind
omit [Orc] in
theorem set_r {k : Nat} : (Γ ++ L).set (Γ.length + k) x = Γ ++ L.set k x := by
  simp_all
theorem St.set_r (h : St H ((Γ ++ L).set (Γ.length + k) x)) : St H (Γ ++ L.set k x) := by simp_all
theorem St.keep (n : Nat) (h : St H (Γ ++ L)) : St H (Γ ++ L.take n) := h.sub (List.Sublist.append (List.Sublist.refl _) (List.take_sublist n L))
def RdInts (Γ : List (Nat × Blk)) (v : Value) (k : IntKind) (xs : List Int) : Prop :=
  (v = nilSl ∧ xs = []) ∨ ∃ (p c j : Nat), v = sl p 0 xs.length c ∧ Γ[j]? = some (p, (⟨xs.map (Value.int k), false⟩ : Blk))
theorem RdInts.len (h : RdInts Γ v k xs) : lenSl v H = some (int xs.length, H) := by
  rcases h with ⟨rfl, rfl⟩ | ⟨p, c, j, rfl, _⟩ <;> rfl
theorem RdInts.pos (h : RdInts Γ v k xs) (hp : 0 < xs.length) : ∃ (p c j : Nat), v = sl p 0 xs.length c ∧ Γ[j]? = some (p, (⟨xs.map (Value.int k), false⟩ : Blk)) := by
  rcases h with ⟨_, rfl⟩ | h
  · simp at hp
  · exact h
theorem bin_rem {a : Int} (hb : b ≠ 0) : (binC P .rem t c).f (.int k a) (.int k b) = some (.int k (a.tmod b)) := by
  rw [binC_int a b rfl]
  show (match eqB b 0 with | true => none | false => some (Value.int k (a.tmod b))) = _
  simp_all[eqB_eq]
end
section
theorem RdInts.app (h : RdInts Γ v k xs) : RdInts (Γ ++ Δ) v k xs := by
  rcases h with h | ⟨p, c, j, h1, h2⟩
  · exact .inl h
  · exact .inr ⟨p, c, j, h1, at_l h2⟩
theorem RdInts.app' (h : RdInts Δ v k xs) : RdInts (Γ ++ Δ) v k xs := by
  rcases h with h | ⟨p, c, j, h1, h2⟩
  · exact .inl h
  · exact .inr ⟨p, c, Γ.length + j, h1, at_r h2⟩
def RdPairs (Γ : List (Nat × Blk)) (v : Value) (xs : List (Int × Int)) : Prop :=
  (v = nilSl ∧ xs = []) ∨ ∃ (p c j : Nat), v = sl p 0 xs.length c ∧ Γ[j]? = some (p, (⟨xs.flatMap fun a => [int a.1, int a.2], false⟩ : Blk))
theorem RdPairs.len (h : RdPairs Γ v xs) : lenSl v H = some (int xs.length, H) := by
  rcases h with ⟨rfl, rfl⟩ | ⟨p, c, j, rfl, _⟩ <;> rfl
theorem RdPairs.pos (h : RdPairs Γ v xs) (hp : 0 < xs.length) : ∃ (p c j : Nat), v = sl p 0 xs.length c ∧ Γ[j]? = some (p, (⟨xs.flatMap fun a => [int a.1, int a.2], false⟩ : Blk)) := by
  rcases h with ⟨_, rfl⟩ | h
  · simp at hp
  · exact h
theorem RdPairs.app (h : RdPairs Γ v xs) : RdPairs (Γ ++ Δ) v xs := by
  rcases h with h | ⟨p, c, j, h1, h2⟩
  · exact .inl h
  · exact .inr ⟨p, c, j, h1, at_l h2⟩
theorem RdPairs.app' (h : RdPairs Δ v xs) : RdPairs (Γ ++ Δ) v xs := by
  rcases h with h | ⟨p, c, j, h1, h2⟩
  · exact .inl h
  · exact .inr ⟨p, c, Γ.length + j, h1, at_r h2⟩
end
end Go.Ab
namespace Go.Ab
open Go
variable {c cs d e eq k ks m n off t v xs ys}
local instance : Base := ⟨fun _ => none, 0⟩
set_option linter.unusedVariables false
inductive CK | b | i (k : IntKind) | s
def fit1 : CK → Value → Prop
  | .b, .bool _ => True
  | .i k, .int k' _ => k = k'
  | .s, .string _ => True
  | _, _ => False
def Fit : List CK → List Value → Prop
  | [], [] => True
  | k :: ks, v :: vs => fit1 k v ∧ Fit ks vs
  | _, _ => False
theorem Fit.len : ∀ {ks : List CK} {vs : List Value}, Fit ks vs → vs.length = ks.length
  | [], [], _ => rfl
  | _ :: _, _ :: _, h => by simp [Fit.len h.2]
theorem Fit.app : ∀ {a b : List CK} {vs : List Value}, Fit (a ++ b) vs → Fit a (vs.take a.length) ∧ Fit b (vs.drop a.length)
  | [], b, vs, h => ⟨trivial, h⟩
  | k :: a, b, v :: vs, h => ⟨⟨h.1, (Fit.app h.2).1⟩, (Fit.app h.2).2⟩
section
variable (P : Program)
variable {P}
end
end Go.Ab
namespace Go.Ab
open Go
variable {H P b c k k' n t w x y} {a : Nat}
set_option linter.unusedVariables false
set_option linter.unusedSectionVars false
def wdU : IntKind → Nat
  | .u8 => 8
  | .u16 => 16
  | .u32 => 32
  | .u64 => 64
  | _ => 0
def isU : IntKind → Bool
  | .u8 => true
  | .u16 => true
  | .u32 => true
  | .u64 => true
  | _ => false
def szU (k : IntKind) : Nat := 2 ^ wdU k
abbrev uint (k : IntKind) (a : Nat) : Value := .int k (a : Int)
section
variable [Orc]
theorem wrap_u (hk : isU k = true) : wrapA k (a : Int) = ((a % szU k : Nat) : Int) := by cases k <;> first | (cases hk; done) | rfl
theorem bits_u (hk : isU k = true) : bitsA k (a : Int) = a % szU k := by cases k <;> first | (cases hk; done) | rfl
theorem bin_andU (hk : isU k = true) (ha : a < szU k) (hb : b < szU k) : (binC P .and t c).f (uint k a) (uint k b) = some (uint k (a &&& b)) := by
  rw [binC_int _ _ rfl]
  show some (Value.int k (wrapA k ((Nat.land (bitsA k a) (bitsA k b) : Nat) : Int))) = _
  rw [bits_u hk, bits_u hk, Nat.mod_eq_of_lt ha, Nat.mod_eq_of_lt hb, wrap_u hk, Nat.mod_eq_of_lt (show Nat.land a b < szU k from Nat.and_lt_two_pow a hb)]; rfl
theorem bin_orU (hk : isU k = true) (ha : a < szU k) (hb : b < szU k) : (binC P .or t c).f (uint k a) (uint k b) = some (uint k (a ||| b)) := by
  rw [binC_int _ _ rfl]
  show some (Value.int k (wrapA k ((Nat.lor (bitsA k a) (bitsA k b) : Nat) : Int))) = _
  rw [bits_u hk, bits_u hk, Nat.mod_eq_of_lt ha, Nat.mod_eq_of_lt hb, wrap_u hk, Nat.mod_eq_of_lt (show Nat.lor a b < szU k from Nat.or_lt_two_pow ha hb)]; rfl
theorem bin_xorU (hk : isU k = true) (ha : a < szU k) (hb : b < szU k) : (binC P .xor t c).f (uint k a) (uint k b) = some (uint k (a ^^^ b)) := by
  rw [binC_int _ _ rfl]
  show some (Value.int k (wrapA k ((Nat.xor (bitsA k a) (bitsA k b) : Nat) : Int))) = _
  rw [bits_u hk, bits_u hk, Nat.mod_eq_of_lt ha, Nat.mod_eq_of_lt hb, wrap_u hk, Nat.mod_eq_of_lt (show Nat.xor a b < szU k from Nat.xor_lt_two_pow ha hb)]; rfl
theorem bin_addU (hk : isU k = true) : (binC P .add t c).f (uint k a) (uint k b) = some (uint k ((a + b) % szU k)) := by
  rw [bin_add, show (a : Int) + (b : Int) = ((a + b : Nat) : Int) by simp, wrap_u hk]
theorem bin_mulU (hk : isU k = true) : (binC P .mul t c).f (uint k a) (uint k b) = some (uint k ((a * b) % szU k)) := by
  rw [bin_mul, show (a : Int) * (b : Int) = ((a * b : Nat) : Int) by simp, wrap_u hk]
theorem bin_subU (hk : isU k = true) (h : b ≤ a) (ha : a < szU k) : (binC P .sub t c).f (uint k a) (uint k b) = some (uint k (a - b)) := by
  rw [bin_sub, show (a : Int) - (b : Int) = ((a - b : Nat) : Int) by omega, wrap_u hk, Nat.mod_eq_of_lt (by omega)]
theorem bin_remU (hb : 0 < b) : (binC P .rem t c).f (uint k a) (uint k b) = some (uint k (a % b)) := by
  grind[bin_rem]
theorem bin_quoU (hk : isU k = true) (hb : 0 < b) (ha : a < szU k) : (binC P .quo t c).f (uint k a) (uint k b) = some (uint k (a / b)) := by
  rw [binC_int _ _ rfl]
  show (match eqB (b : Int) 0 with | true => none | false => some (Value.int k (wrapA k ((a : Int).tdiv b)))) = _
  rw [eqB_eq, decide_eq_false (by omega)]
  show some (Value.int k (wrapA k ((a / b : Nat) : Int))) = _
  rw [wrap_u hk, Nat.mod_eq_of_lt (Nat.lt_of_le_of_lt (Nat.div_le_self _ _) ha)]
theorem bin_shlU (hk : isU k = true) (hn : n ≤ wdU k) : (binC P .shl t c).f (uint k a) (uint k' n) = some (uint k (a * 2 ^ n % szU k)) := by
  show shiftA true k a n = _
  have hb : k.bits = wdU k := by cases k <;> first | (cases hk; done) | rfl
  unfold shiftA
  rw [if_neg (by omega), if_pos rfl, Int.toNat_natCast, hb, Nat.min_eq_left hn, show (a : Int) * ((2 ^ n : Nat) : Int) = ((a * 2 ^ n : Nat) : Int) by simp, wrap_u hk]
theorem bin_shrU (hk : isU k = true) (hn : n ≤ wdU k) : (binC P .shr t c).f (uint k a) (uint k' n) = some (uint k (a / 2 ^ n)) := by
  show shiftA false k a n = _
  have hb : k.bits = wdU k := by cases k <;> first | (cases hk; done) | rfl
  unfold shiftA
  grind
theorem un_negU (hk : isU k = true) (ha : a < szU k) : unA .neg (uint k a) = some (uint k ((szU k - a) % szU k)) := by
  show some (Value.int k (wrapA k (0 - (a : Int)))) = _
  cases a with
  | zero =>
    rw [show (0 : Int) - ((0 : Nat) : Int) = ((0 : Nat) : Int) by simp, wrap_u hk]
    simp
  | succ m =>
    rw [show (0 : Int) - ((m + 1 : Nat) : Int) = Int.negSucc m by omega, Nat.mod_eq_of_lt (by omega)]
    have : wrapA k (Int.negSucc m) = ((szU k - 1 - m % szU k : Nat) : Int) := by cases k <;> first | (cases hk; done) | rfl
    rw [this, Nat.mod_eq_of_lt (by omega), show szU k - 1 - m = szU k - (m + 1) by omega]
theorem xor_all (ha : a < 2 ^ w) : (2 ^ w - 1) ^^^ a = 2 ^ w - 1 - a := by
  apply Nat.eq_of_testBit_eq
  intro i
  grind[Nat.testBit_lt_two_pow,Nat.lt_of_lt_of_le,Nat.pow_le_pow_right]
theorem un_notU (hk : isU k = true) (ha : a < szU k) : unA .xor (uint k a) = some (uint k (szU k - 1 - a)) := by
  show some (Value.int k (wrapA k ((Nat.xor (bitsA k (if k.signed then -1 else k.max)) (bitsA k (a : Int)) : Nat) : Int))) = _
  have hm : bitsA k (if k.signed then -1 else k.max) = szU k - 1 := by cases k <;> first | (cases hk; done) | rfl
  rw [hm, bits_u hk, Nat.mod_eq_of_lt ha, wrap_u hk, show Nat.xor (szU k - 1) a = (2 ^ wdU k - 1) ^^^ a from rfl, xor_all ha, Nat.mod_eq_of_lt (by grind[szU])]
  rfl
theorem cvU (hk : isU k' = true) : cvInt k' (uint k a) H = some (uint k' (a % szU k'), H) := by
  show some (Value.int k' (wrapA k' (a : Int)), H) = _
  rw [wrap_u hk]
end
end Go.Ab
namespace Go.Ab
open Go
variable {A B H H' K P a c cs cs2 e i k n o p q t v w x xs y ys Γ Δ} {b : Blk}
set_option linter.unusedVariables false
set_option linter.unusedSectionVars false
abbrev by8 (xs : List Int) : List Value := xs.map (Value.int .u8)
def RdB (Γ : List (Nat × Blk)) (v : Value) (xs : List Int) : Prop :=
  (v = nilSl ∧ xs = []) ∨ ∃ p o c, v = sl p o xs.length c ∧ (c = 2 ∨ c = 3) ∧ (xs = [] ∨ ∃ (j : Nat) (b : Blk), Γ[j]? = some (p, b) ∧ (b.cells.drop o).take xs.length = by8 xs)
def OwnB (v : Value) (xs : List Int) (cs : List Value) : Prop :=
  (v = nilSl ∧ xs = [] ∧ cs = []) ∨ ∃ p, (v = sl p 0 xs.length 2 ∨ (v = sl p 0 xs.length 3 ∧ cs.length = xs.length)) ∧ cs.take xs.length = by8 xs ∧ xs.length ≤ cs.length ∧ cs.all simpleB = true
section
variable [Orc] [LpC]
theorem RdB.nil : RdB Γ nilSl [] := .inl ⟨rfl, rfl⟩
theorem RdB.lenSl (h : RdB Γ v xs) : lenSl v H = some (int xs.length, H) := by
  rcases h with ⟨rfl, rfl⟩ | ⟨p, o, c, rfl, _⟩ <;> rfl
theorem RdB.lenA (h : RdB Γ v xs) : lenA v = some xs.length := by
  rcases h with ⟨rfl, rfl⟩ | ⟨p, o, c, rfl, _⟩ <;> rfl
theorem RdB.app (h : RdB Γ v xs) : RdB (Γ ++ Δ) v xs := by
  rcases h with h | ⟨p, o, c, h1, h2, h3 | ⟨j, b, h3, h4⟩⟩
  · exact .inl h
  · exact .inr ⟨p, o, c, h1, h2, .inl h3⟩
  · exact .inr ⟨p, o, c, h1, h2, .inr ⟨j, b, at_l h3, h4⟩⟩
theorem RdB.app' (h : RdB Δ v xs) : RdB (Γ ++ Δ) v xs := by
  rcases h with h | ⟨p, o, c, h1, h2, h3 | ⟨j, b, h3, h4⟩⟩
  · exact .inl h
  · exact .inr ⟨p, o, c, h1, h2, .inl h3⟩
  · exact .inr ⟨p, o, c, h1, h2, .inr ⟨Γ.length + j, b, at_r h3, h4⟩⟩
theorem OwnB.nil : OwnB nilSl [] [] := .inl ⟨rfl, rfl, rfl⟩
theorem OwnB.rd (h : OwnB v xs cs) : RdB (outB v cs) v xs := by
  rcases h with ⟨rfl, rfl, rfl⟩ | ⟨p, rfl | ⟨rfl, _⟩, h2, h3⟩
  · exact .nil
  · exact .inr ⟨p, 0, 2, rfl, .inl rfl, .inr ⟨0, ⟨cs, true⟩, rfl, by simp_all⟩⟩
  · exact .inr ⟨p, 0, 3, rfl, .inr rfl, .inr ⟨0, ⟨cs, true⟩, rfl, by simp_all⟩⟩
theorem OwnB.lenSl (h : OwnB v xs cs) : lenSl v H = some (int xs.length, H) := h.rd.lenSl
theorem cells_ne (hx : xs ≠ []) (h : (b.cells.drop o).take xs.length = by8 xs) : b.cells ≠ [] := by
  intro e
  simp_all
theorem cells_len (h : (b.cells.drop o).take xs.length = by8 xs) : xs.length ≤ b.cells.length - o := by
  have := congrArg List.length h
  grind
theorem RdB.elems (hO : St H Γ) (h : RdB Γ v xs) : elemsA H 1 xs.length v = some (by8 xs) := by
  rcases h with ⟨rfl, rfl⟩ | ⟨p, o, c, rfl, _, rfl | ⟨j, b, h3, h4⟩⟩
  · rfl
  · rfl
  · by_cases hx : xs = []
    · subst hx; rfl
    · rw [elems_sl (hO.at j h3 (.inr (cells_ne hx h4))) (by have := cells_len h4; grind[List.length_pos_iff]), Nat.mul_one, h4]
theorem RdB.at (h : RdB Γ v xs) (hi : i < xs.length) : ∃ (p o c j : Nat) (b : Blk), v = sl p o xs.length c ∧ Γ[j]? = some (p, b) ∧ b.cells[o + i]? = some (Value.int .u8 xs[i]) := by
  rcases h with ⟨rfl, rfl⟩ | ⟨p, o, c, rfl, _, rfl | ⟨j, b, h3, h4⟩⟩
  · simp at hi
  · simp at hi
  · refine ⟨p, o, c, j, b, rfl, h3, ?_⟩
    have := congrArg (·[i]?) h4
    grind
theorem append_by (hO : St H (Γ ++ outB v cs)) (hv : OwnB v xs cs) (hx : RdB Γ x ys) (hl : xs.length + ys.length ≤ 1000000000)
    (hk : ∀ H' v' cs', St H' (Γ ++ outB v' cs') → OwnB v' (xs ++ ys) cs' → K v' H') : opW (appendWith 1 1 v x H) K := by
  unfold appendWith
  simp only [hx.lenA, hx.app.elems hO]
  by_cases hy : ys = []
  · subst hy
    rw [List.append_nil] at hk
    rcases hv with ⟨rfl, rfl, rfl⟩ | ⟨p, rfl | ⟨rfl, h1⟩, h2, h3⟩
    · exact opW_i (rfl) (hk _ _ _ hO .nil)
    · exact opW_i (rfl) (hk _ _ _ hO (.inr ⟨p, .inl rfl, h2, h3⟩))
    · exact opW_i (rfl) (hk _ _ _ hO (.inr ⟨p, .inr ⟨rfl, h1⟩, h2, h3⟩))
  have hmb : Nat.beq ys.length 0 = false := by
    grind[Nat.eq_of_beq_eq_true]
  have h1 : (by8 ys).all oneCell = true := by simp [oneCell]
  have own' : ∀ p, OwnB (sl p 0 (xs.length + ys.length) 2) (xs ++ ys) (by8 xs ++ by8 ys) := fun p => by
    refine .inr ⟨p, .inl (by simp_all), ?_, by simp, by simp [simpleB, simple0]⟩
    grind
  unfold appendTo
  rcases hv with ⟨rfl, rfl, rfl⟩ | ⟨p, hv, h2, h3, h4⟩
  · simp only [hmb, Bool.false_eq_true, if_false]
    rw [if_pos (room_of (by omega) (by omega))]
    have hO : St H Γ := by simp_all[outB]
    refine opW_i (rfl) (hk _ _ (by8 ys) (hO.push _) ?_)
    simp_all
  · have hΓ : outB v cs = [(p, ⟨cs, true⟩)] := by rcases hv with rfl | ⟨rfl, _⟩ <;> rfl
    rw [hΓ] at hO
    have hi : (Γ ++ [(p, (⟨cs, true⟩ : Blk))])[Γ.length]? = some (p, ⟨cs, true⟩) := by simp
    have hget := hO.at _ hi (.inl rfl)
    rcases hv with rfl | ⟨rfl, hlen⟩
    · have her := hO.erase hi
      have he : (Γ ++ [(p, (⟨cs, true⟩ : Blk))]).eraseIdx Γ.length = Γ := by
        grind
      rw [he] at her
      simp only [hmb, Bool.false_eq_true, if_false]
      rw [if_pos (room_of (by omega) (by omega))]
      rw [if_neg (by decide), if_pos (by decide)]
      unfold appendOpen
      rw [hget]
      have e : (Heap.mayWrite H p ⟨cs, true⟩ && (Nat.ble (0 + xs.length * 1) (lenN cs) && allN oneCell (by8 ys))) = true := by
        unfold Heap.mayWrite
        rw [hO.fl, lenN_eq, allN_eq, h1, ble_eq, ble_eq, decide_eq_true (by omega : 0 + xs.length * 1 ≤ cs.length)]
        simp
      simp only [e]
      have e2 : appN (dropN (takeN cs (0 + xs.length * 1)) 0) (by8 ys) = by8 xs ++ by8 ys := by
        simp_all[appN_eq,dropN_eq,takeN_eq]
      rw [e2]
      exact opW_i (rfl) (hk _ _ _ (her.push _) (own' _))
    · simp only [hmb, Bool.false_eq_true, if_false]
      rw [if_pos (room_of (by omega) (by omega))]
      rw [if_pos (by decide)]
      unfold appendClosed
      have hcs : cs = by8 xs := by grind
      have e3 : (if Nat.beq xs.length 0 = true then some [] else readCells H p 0 (xs.length * 1)) = some (by8 xs) := by
        simp_all[readCells_eq,cellsAt,takeN_eq,dropN_eq,lenN_eq]
      rw [e3]
      simp only [appN_eq]
      exact opW_i (rfl) (hk _ _ _ (hO.left.push _) (own' _))
theorem append_new (hO : St H ((Γ ++ outB v cs) ++ [(q, ⟨by8 ys, w⟩)])) (hv : OwnB v xs cs) (hl : xs.length + ys.length ≤ 1000000000) (hn : n = ys.length) (hc : c = 2 ∨ c = 3)
    (hk : ∀ H' v' cs', St H' (Γ ++ outB v' cs') → OwnB v' (xs ++ ys) cs' → K v' H') : opW (appendWith 1 1 v (sl q 0 n c) H) K := by
  have hO2 : St H ((Γ ++ [(q, ⟨by8 ys, w⟩)]) ++ outB v cs) := hO.perm (by
    simp_all[List.Perm.append_left])
  refine append_by hO2 hv (.inr ⟨q, 0, c, by rw [hn], hc, .inr ⟨Γ.length, ⟨by8 ys, w⟩, by simp, ?_⟩⟩) hl ?_
  · simp_all[List.take_of_length_le]
  grind[St.sub]
theorem RdB.tl (h : RdB B v xs) : RdB (Γ ++ (y :: B)) v xs := by
  have := h.app' (Γ := Γ ++ [y])
  simp_all
theorem cvIU (h0 : 0 ≤ n) (h1 : n < 18446744073709551616) : cvInt .u64 (int n) H = some (uint .u64 n.toNat, H) := by
  obtain ⟨m, rfl⟩ : ∃ m : Nat, n = m := ⟨n.toNat, by omega⟩
  show some (Value.int .u64 (wrapA .u64 (m : Int)), H) = _
  rw [wrap_u rfl, Int.toNat_natCast, Nat.mod_eq_of_lt (show m < szU .u64 from (show m < 18446744073709551616 by omega))]
theorem uint_of (h0 : 0 ≤ n) : Value.int k n = uint k n.toNat := by grind
theorem bytesOf (xs : List Int) : bytesOfL (by8 xs) = some (xs.map fun n => UInt8.ofNat n.toNat) := by
  induction xs with
  | nil => rfl
  | cons x r ih => simp_all[bytesOfL]
def strB (xs : List Int) : Value := .string ⟨(xs.map fun n => UInt8.ofNat n.toNat).toArray⟩
theorem RdB.str (hO : St H Γ) (h : RdB Γ v xs) : bytesToStr v H = some (strB xs, H) := by
  have he := h.elems hO
  rcases h with ⟨rfl, rfl⟩ | ⟨p, o, c, rfl, _⟩
  · rfl
  · unfold bytesToStr
    simp only
    split
    · rename_i h0
      have h0 := Nat.eq_of_beq_eq_true h0
      have : xs = [] := List.length_eq_zero_iff.1 h0
      subst this; rfl
    · rename_i h0
      unfold elemsA at he
      simp only [Nat.mul_one] at he
      rw [if_neg h0] at he
      rw [he]
      simp only [bytesOf]
      rfl
end
end Go.Ab
namespace Go.Ab
open Go
variable {A H H' K L L' N P Qr Qx T a args asg b body c e f g k l o p ps r size st t v vals x y Γ} {n : Nat} {i : Int} {B : Prop}
local instance : Base := ⟨fun _ => none, 0⟩
set_option linter.unusedVariables false
set_option linter.unusedSectionVars false
section
variable [Orc]
section
variable {q : Prop} [Decidable q]
theorem qa (h1 : -9223372036854775808 ≤ a + b := by omega) (h2 : a + b ≤ 9223372036854775807 := by omega) : (binC P .add t c).f (.int .i64 a) (.int .i64 b) = some (.int .i64 (a + b)) := bin_addi h1 h2
theorem qs (h1 : -9223372036854775808 ≤ a - b := by omega) (h2 : a - b ≤ 9223372036854775807 := by omega) : (binC P .sub t c).f (.int .i64 a) (.int .i64 b) = some (.int .i64 (a - b)) := bin_subi h1 h2
theorem qi (h0 : 0 ≤ i := by omega) (h1 : i < n := by omega) : idxSl size (sl p o n c) (.int k i) = some (ptr p (o + i.toNat * size)) := idxSl_ok h0 h1
theorem qj (h0 : 0 ≤ i := by omega) (h1 : i < n := by omega) : idxPtr n size (ptr p o) (.int k i) = some (ptr p (o + i.toNat * size)) := idxPtr_ok h0 h1
theorem qy (h : q := by first | assumption | omega) : pickA (.bool (decide q)) x y = some x := pick_yes h
theorem qn (h : ¬ q := by first | assumption | omega) : pickA (.bool (decide q)) x y = some y := pick_no h
theorem wy (hA : A) (h : q := by first | assumption | omega) : wIf (.bool (decide q)) A B := wIf_yes h hA
theorem wn (hB : B) (h : ¬ q := by first | assumption | omega) : wIf (.bool (decide q)) A B := wIf_no h hB
end
theorem ld {H : Heap} {Γ : List (Nat × Blk)} {L : List (Nat × Blk)} {p : Nat} {o : Nat} {b : Blk} {v : Value} {K : Value → Heap → Prop} [LpC] (h : St H (Γ ++ L)) (k : Nat) (hi : L[k]? = some (p, b)) (hv : b.cells[o]? = some v) (hk : K v H) : opW (loadOne (ptr p o) H) K := load_at h _ (at_r hi) hv hk
section
variable {q : Prop} [Decidable q]
theorem oi (hk : K v) (h : r = some v := by first | exact qa | exact qs | exact nilCheck_ptr | exact offPtr_ptr | exact bin_eql | exact bin_neq | exact bin_lss | exact bin_gtr | exact bin_leq | exact bin_geq | exact un_not | exact pick_true | exact pick_false | exact qy | exact qn | exact qi | exact qj) : opP r K := ⟨v, h, hk⟩
theorem ow {r : R} (hk : K v H') (h : r = some (v, H') := by first | exact lenSl_sl | exact min_w | exact max_w) : opW r K := ⟨v, H', h, hk⟩
theorem wt (hA : A) (h : b = true := by rfl) : wIf (.bool b) A B := wIf_t h hA
theorem wf' (hB : B) (h : b = false := by rfl) : wIf (.bool b) A B := wIf_f h hB
theorem cy (hA : A) (h : b = true := by rfl) : cond b A B := cond_yes h hA
theorem cn (hB : B) (h : b = false := by rfl) : cond b A B := cond_no h hB
end
end
end Go.Ab
namespace Go.Ab
open Go
variable {H K L P T e id key ok str t v x z Γ}
local instance : Base := ⟨fun _ => none, 0⟩
set_option linter.unusedVariables false
set_option linter.unusedSectionVars false
section
variable [Orc]
end
end Go.Ab
