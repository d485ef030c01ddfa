import Derived.Test.YtccblhllmplmaaaAbMon
namespace Go.Ab
open Go
set_option linter.unusedVariables false
set_option linter.unusedSectionVars false
noncomputable section

abbrev Env := Nat → Value
def put (ρ : Env) (d : Option Tmp) (v : Value) : Env := match d with
  | some d => fun i => cond (Nat.beq i d) v (ρ i)
  | none => ρ
def ev (x : Operand) (ρ : Env) : Value := match x with
  | .tmp t => ρ t
  | .const v => v
  | .global g => .pointer (some ⟨g, 0, none⟩)
  | .func f => .func (.func f) #[] #[]
def evsE (l : List Operand) (ρ : Env) : List Value := List.rec (motive := fun _ => List Value) [] (fun o _ ih => ev o ρ :: ih) l
def evPartsE (l : List (Nat × Operand)) (ρ : Env) : List (Nat × Value) := List.rec (motive := fun _ => List (Nat × Value)) [] (fun p _ ih => (p.1, ev p.2 ρ) :: ih) l
def evOE (o : Option Operand) (ρ : Env) : Option Value := match o with
  | none => none
  | some o => some (ev o ρ)
def mapN (ρ : Env) (l : List Nat) : List Value := List.rec (motive := fun _ => List Value) [] (fun i _ ih => ρ i :: ih) l
def envFrom (l : List Value) (keys : List Nat) : Nat → Nat → Value :=
  List.rec (motive := fun _ => Nat → Nat → Value) (fun _ _ => undef) (fun k _ ih p i => cond (Nat.beq i k) (nth l p) (ih (Nat.succ p) i)) keys
def envOf (keys : List Nat) (l : List Value) : Env := fun i => envFrom l keys 0 i

/-! what is read later -/
def rdO (x : Operand) : Nat := match x with | .tmp t => Nat.shiftLeft 1 t | _ => 0
def rdL (l : List Operand) : Nat := List.rec (motive := fun _ => Nat) 0 (fun x _ ih => Nat.lor (rdO x) ih) l
def clr (m d : Nat) : Nat := cond (bitB m d) (Nat.xor m (Nat.shiftLeft 1 d)) m
def clrO (m : Nat) (d : Option Tmp) : Nat := match d with | some d => clr m d | none => m
def grdSlot (all : List Oper) (g : Option (Nat × Bool)) : Option (Option Nat × Bool) := match g with
  | none => none
  | some (j, want) => some ((atN all j).bind (·.dst), want)
def rdG (all : List Oper) (g : Option (Nat × Bool)) : Nat := match grdSlot all g with
  | some (some d, _) => Nat.shiftLeft 1 d
  | _ => 0
def liveOps (all l : List Oper) (N : Nat) : Nat := List.rec (motive := fun _ => Nat) N (fun o _ ih => Nat.lor (clrO ih o.dst) (Nat.lor (rdL o.op.operands.toList) (rdG all o.guard))) l
def live (c : Code) : Nat → Nat → Nat :=
  Code.rec (motive := fun _ => Nat → Nat → Nat)
    (fun N _ => N)
    (fun _ ops _ N _ => liveOps ops.toList ops.toList N)
    (fun _ _ a b N X => a (b N X) X)
    (fun c _ _ a b N X => Nat.lor (rdO c) (Nat.lor (a N X) (b N X)))
    (fun _ _ a N X => a N (Nat.lor N X))
    (fun _ a _ X => a 0 X)
    (fun _ _ _ _ _ _ _ _ => 0)
    (fun _ _ X => X)
    (fun _ _ _ _ => 0)
    (fun _ N _ => N)
    (fun _ _ _ => 0)
    (fun _ X => X)
    (fun _ _ _ => 0) c
def bitsFrom (m n : Nat) : List Nat := Nat.rec (motive := fun _ => List Nat → List Nat) (fun acc => acc) (fun k ih acc => ih (cond (bitB m k) (k :: acc) acc)) n []
def bits (n m : Nat) : List Nat := bitsFrom m n

/-! joins -/
def cntExit (id : Nat) (c : Code) : Nat :=
  Code.rec (motive := fun _ => Nat) 0 (fun _ _ _ => 0) (fun _ _ a b => a + b) (fun _ _ _ a b => a + b) (fun _ _ a => a) (fun _ a => a) (fun _ _ _ _ _ _ => 0) (fun i => cond (Nat.beq i id) 1 0) (fun _ _ => 0) (fun _ => 0) (fun _ => 0) 0 (fun _ => 0) c
def anyGuard (l : List Oper) : Bool := not (allN (fun o => match o.guard with | none => true | some _ => false) l)
def wgt (c : Code) : Nat :=
  Code.rec (motive := fun _ => Nat) 0 (fun _ ops _ => lenN ops.toList) (fun _ _ a b => a + b) (fun _ _ _ a b => a + b + 4) (fun _ _ a => a) (fun _ _ => 9) (fun _ _ _ _ _ _ => 9) (fun _ => 0) (fun _ _ => 0) (fun _ => 0) (fun _ => 0) 0 (fun _ => 0) c
def ends (c : Code) : Nat :=
  Code.rec (motive := fun _ => Nat) 1 (fun _ ops _ => cond (anyGuard ops.toList) 2 1) (fun _ b ea eb => cond (Nat.ble 2 ea && Nat.ble 6 (wgt b)) eb (ea * eb)) (fun _ _ _ a b => a + b) (fun id b a => a + cntExit id b) (fun _ _ => 0) (fun _ _ _ _ _ _ => 1) (fun _ => 0) (fun _ _ => 0) (fun _ => 1) (fun _ => 0) 0 (fun _ => 0) c
def joinB (a b : Code) : Bool := Nat.ble 2 (ends a) && Nat.ble 6 (wgt b)

/-! what is asked, piece by piece -/
def opW (r : R) (K : Value → Heap → Prop) : Prop := ∃ v H', r = some (v, H') ∧ K v H'
def opP (r : Option Value) (K : Value → Prop) : Prop := ∃ v, r = some v ∧ K v
def wIf (v : Value) (A B : Prop) : Prop := (v = .bool true → A) ∧ (v = .bool false → B) ∧ ∃ b, v = .bool b
def Heap.push (H : Heap) (cs : List Value) : Heap := ⟨H.t.set H.next (some ⟨cs, true⟩), Nat.succ H.next, H.floor, H.lps⟩
def wNew (cs : List Value) (H : Heap) (K : Value → Heap → Prop) : Prop := K (.pointer (some ⟨H.next, 0, none⟩)) (H.push cs)
def wJoin (A : (List Value → Heap → Prop) → Prop) (B : List Value → Heap → Prop) : Prop := ∃ J, A J ∧ ∀ l H, J l H → B l H
def pickA (c a b : Value) : Option Value := match c with | .bool t => (match t with | true => some a | false => some b) | _ => none
def extA (i : Nat) (x : Value) : Option Value := match x with | .tuple vs => atN vs.toList i | _ => none
def cSame (s : Nat → Bool) (ids : List Nat) : Prop := allN s ids = true
def cApart (a b : List Nat) : Prop := apartIds a b = true
def cOut (a : List Nat) (lo hi : Nat) : Prop := outside a lo hi = true

/-! forms that the types have settled -/
def fldAt (off : Nat) (x : Value) : Option Value := match x with | .agg cs => atN cs.toList off | _ => none
def fldAgg (n off : Nat) (x : Value) : Option Value := match x with | .agg cs => some (.agg (takeN (dropN cs.toList off) n).toArray) | _ => none
def cvInt (k : IntKind) (x : Value) (H : Heap) : R := match x with | .int _ n => some (.int k (wrapA k n), H) | _ => none
def cvStr (x : Value) (H : Heap) : R := match x with | .string s => some (.string s, H) | _ => none
def lenSl (x : Value) (H : Heap) : R := match x with | .slice _ n _ => some (.int .i64 n, H) | _ => none
def lenStr (x : Value) (H : Heap) : R := match x with | .string s => some (.int .i64 (Int.ofNat (lenN s.data.toList)), H) | _ => none
def zc (P : Program) (t : TypeId) : List Value := match zeroB P t with | some z => cellsL z | none => []

section
variable [Orc] (P : Program)
def wT (t : Task) (K : Value → Heap → Prop) : Prop := ∃ n ex v H', runO P n t = some ⟨ex, [v], H'⟩ ∧ K v H'
def wCall (f : FuncId) (args : List Value) (H : Heap) (K : Value → Heap → Prop) : Prop := wT P (.call f args H) K
def wTgt (x : Option Tgt) (H : Heap) (K : Value → Heap → Prop) : Prop := match x with
  | some t => (match t with
    | .fn f args => wCall P f args H K
    | .yld l args => wT P (.round l args H) K)
  | none => False

def vcOp (op : Op) (ρ : Env) (H : Heap) (K : Value → Heap → Prop) : Prop := match op with
  | .move x => K (ev x ρ) H
  | .assign x => K (ev x ρ) H
  | .pick c a b => opP (pickA (ev c ρ) (ev a ρ) (ev b ρ)) fun v => K v H
  | .alloc t => match zeroB P t with
    | some z => wNew (cellsL z) H K
    | none => False
  | .box _ x => wNew (cellsL (ev x ρ)) H K
  | .build t parts => opP ((buildC P t).f (evPartsE parts.toList ρ)) fun v => K v H
  | .buildSlice t len parts => opW ((buildSliceC P t len).f (evPartsE parts.toList ρ) H) K
  | .load t a => opW ((loadC P t).f (ev a ρ) H) K
  | .store t a x => match sizeB P t with
    | some n => opW (storeTo n (ev a ρ) (ev x ρ) H) K
    | none => False
  | .nilCheck x => opP (nilCheckA (ev x ρ)) fun v => K v H
  | .binOp op t x y _ => opP ((binC P op t (isConstB x || isConstB y)).f (ev x ρ) (ev y ρ)) fun v => K v H
  | .unOp op _ x => opP (unA op (ev x ρ)) fun v => K v H
  | .convert s d x => opW ((convC P s d).f (ev x ρ) H) K
  | .makeInterface t x => match P.underlying t with
    | some (.interface _) => False
    | some _ => K (.iface t (ev x ρ)) H
    | none => False
  | .makeFunc fn first cap => match fn with
    | .func f => K (.func (.func f) (evsE first.toList ρ).toArray (evsE cap.toList ρ).toArray) H
    | _ => False
  | .makeSlice t l c => opW ((makeSliceC P t).f (ev l ρ) (ev c ρ) H) K
  | .slice t x lo hi mx => opP ((sliceC P t).f (ev x ρ) (evOE lo ρ) (evOE hi ρ) (evOE mx ρ) H) fun v => K v H
  | .fieldAddr s x f => opP ((fieldAddrC P s f).f (ev x ρ)) fun v => K v H
  | .field t x f => opP ((fieldC P t f).f (ev x ρ)) fun v => K v H
  | .indexAddr t x i => opP ((indexAddrC P t).f (ev x ρ) (ev i ρ)) fun v => K v H
  | .index t x i => opP ((indexC P t).f (ev x ρ) (ev i ρ)) fun v => K v H
  | .typeAssert x _ a ok => opP ((typeAssertC P a ok).f (ev x ρ)) fun v => K v H
  | .extract x i => opP (extA i (ev x ρ)) fun v => K v H
  | .call c => match c.callee with
    | .builtin b => opW ((builtinC P b c.argTypes.toList).f (evsE c.args.toList ρ) H) K
    | .value f => wTgt P (callee1 (ev f ρ) (evsE c.args.toList ρ)) H K
    | .invoke r name => wTgt P (invoke1 P name (ev r ρ) (evsE c.args.toList ρ)) H K
  | _ => False
def vcStep (op : Op) (ρ : Env) (H : Heap) (K : Value → Heap → Prop) : Prop := match allN (operandOk P) op.operands.toList with
  | true => vcOp P op ρ H K
  | false => False

inductive Kn where
  | yes | no | undef | any
def getK (l : List (Nat × Kn)) (d : Nat) : Kn := List.rec (motive := fun _ => Kn) .any (fun x _ ih => cond (Nat.beq x.1 d) x.2 ih) l
def setK (l : List (Nat × Kn)) (d : Option Tmp) (k : Kn) : List (Nat × Kn) := match d with | some d => (d, k) :: l | none => l
/-- what is known of an operand that is a bool -/
def knO (known : List (Nat × Kn)) (x : Operand) : Kn := match x with
  | .tmp t => getK known t
  | .const v => match v with
    | .bool b => (match b with | true => .yes | false => .no)
    | _ => .any
  | _ => .any
def knOp (known : List (Nat × Kn)) (op : Op) : Kn := match op with
  | .pick c a b => match knO known c with
    | .yes => knO known a
    | .no => knO known b
    | _ => .any
  | .move x => knO known x
  | .assign x => knO known x
  | _ => .any
def dstOk (n : Nat) (d : Option Tmp) : Bool := match d with | some d => Nat.blt d n | none => true
/-- one operation of a list: done, or left out; by its guard, where that is known -/
def vcGuard (n : Nat) (all : List Oper) (o : Oper) (doIt skip : List (Nat × Kn) → Prop) (known : List (Nat × Kn)) (ρ : Env) : Prop := match dstOk n o.dst with
  | false => False
  | true => match grdSlot all o.guard with
    | none => doIt known
    | some (ds, want) => match ds with
      | none => skip known
      | some d => match getK known d with
        | .yes => cond want (doIt known) (skip known)
        | .no => cond want (skip known) (doIt known)
        | .undef => skip known
        | .any => cond want (wIf (ρ d) (doIt ((d, .yes) :: known)) (skip ((d, .no) :: known))) (wIf (ρ d) (skip ((d, .yes) :: known)) (doIt ((d, .no) :: known)))
def vcOps (n : Nat) (all l : List Oper) (K : Env → Heap → Prop) : List (Nat × Kn) → Env → Heap → Prop :=
  List.rec (motive := fun _ => List (Nat × Kn) → Env → Heap → Prop) (fun _ ρ H => K ρ H)
    (fun o _ ih known ρ H => vcGuard n all o (fun kn => vcStep P o.op ρ H fun v H' => ih (setK kn o.dst (knOp kn o.op)) (put ρ o.dst v) H') (fun kn => ih (setK kn o.dst .undef) (put ρ o.dst undef) H) known ρ) l

def mkRecE (o : Oper) (p : Plan) (ρ : Env) (H H' : Heap) : Rec := ⟨p.ix, p.kind, match p.kind with | 1 => idsOf (evsE o.op.operands.toList ρ) | 4 => idsOf (evsE o.op.operands.toList ρ) | _ => [], H.next, H'.next, match p.kind with | 3 => sameB H H' | _ => fun _ => false⟩
def compatP (k j : Rec) (X : Prop) : Prop := match k.kind with
  | 0 => X
  | 1 => match j.kind with
    | 3 => cSame j.same k.ids ∧ X
    | 4 => cApart k.ids j.ids ∧ X
    | _ => X
  | 2 => match j.kind with
    | 0 => X
    | 1 => cOut j.ids k.lo k.hi ∧ X
    | 2 => X
    | 4 => cOut j.ids k.lo k.hi ∧ X
    | _ => False
  | 3 => match j.kind with
    | 0 => X
    | 1 => cSame k.same j.ids ∧ X
    | 2 => X
    | _ => False
  | 4 => match j.kind with
    | 0 => X
    | 1 => cApart k.ids j.ids ∧ cOut j.ids k.lo k.hi ∧ X
    | 2 => X
    | _ => False
  | _ => False
def fitsP (mask : Nat) (j : Rec) (rs : List Rec) (X : Prop) : Prop := match j.kind with
  | 0 => X
  | _ => List.rec (motive := fun _ => Prop) X (fun k _ ih => cond (bitB mask k.ix) ih (compatP k j ih)) rs
def vcD (n : Nat) (all : List Oper) (l : List (Oper × Plan)) (K : Env → Heap → Prop) : List (Nat × Kn) → Env → Heap → List Rec → Prop :=
  List.rec (motive := fun _ => List (Nat × Kn) → Env → Heap → List Rec → Prop) (fun _ ρ H _ => K ρ H)
    (fun o _ ih known ρ H rs => vcGuard n all o.1 (fun kn => vcStep P o.1.op ρ H fun v H' => fitsP o.2.mask (mkRecE o.1 o.2 ρ H H') rs (ih (setK kn o.1.dst (knOp kn o.1.op)) (put ρ o.1.dst v) H' (mkRecE o.1 o.2 ρ H H' :: rs)))
      (fun kn => ih (setK kn o.1.dst .undef) (put ρ o.1.dst undef) H rs) known ρ) l
def vcR (n : Nat) (ops : List Oper) (d : Bool) (ρ : Env) (H : Heap) (K : Env → Heap → Prop) : Prop := match d with
  | true => match apartAll ops with
    | true => vcD P n ops (plans P ops) K [] ρ H []
    | false => False
  | false => vcOps P n ops ops K [] ρ H

def AgreeK (keys : List Nat) (ρ : Env) (T : List Value) : Prop := ∀ i, i ∈ keys → nth T i = ρ i
def exQ (Qx : Nat → List Value → Heap → Prop) (Qr : List Value → Heap → Prop) : Ex → List Value → Heap → Prop
  | .normal => fun _ _ => False
  | .exit id => Qx id
  | .ret => Qr
/-- a loop: the slots that it goes on from hold 'vals' -/
def wLoop (top : Bool) (n : Nat) (b : Code) (X : Nat) (vals : List Value) (H : Heap) (Qx : Nat → List Value → Heap → Prop) (Qr : List Value → Heap → Prop) : Prop :=
  ∀ T, T.length = n → AgreeK (bits n (live b 0 X)) (envOf (bits n (live b 0 X)) vals) T →
    ∃ m o, runO P m (.loop top b T H) = some o ∧ o.T.length = n ∧ ∃ l, AgreeK (bits n X) (envOf (bits n X) l) o.T ∧ exQ Qx Qr o.ex l o.H

def seqQ (J : Env → Heap → Prop) (Q : Ex → Env → Heap → Prop) : Ex → Env → Heap → Prop
  | .normal => J
  | .exit id => Q (.exit id)
  | .ret => Q .ret
def blockQ (id : Nat) (Q : Ex → Env → Heap → Prop) : Ex → Env → Heap → Prop
  | .normal => Q .normal
  | .exit i => fun ρ H => cond (Nat.beq i id) (Q .normal ρ H) (Q (.exit i) ρ H)
  | .ret => Q .ret
def loopQ (n : Nat) (b : Code) (X : Nat) (N : List Value → Heap → Prop) (Qx : Nat → List Value → Heap → Prop) (Qr : List Value → Heap → Prop) : Ex → Env → Heap → Prop
  | .normal => fun ρ H => N (mapN ρ (bits n (live b 0 X))) H
  | .exit id => fun ρ H => Qx id (mapN ρ (bits n X)) H
  | .ret => fun ρ H => Qr (mapN ρ (bits n X)) H
/-- the loops of a text, as they begin -/
def loopsOf (c : Code) : List Code :=
  Code.rec (motive := fun _ => List Code) [] (fun _ _ _ => []) (fun _ _ a b => appN a b) (fun _ _ _ a b => appN a b) (fun _ _ a => a) (fun b a => b :: a) (fun _ _ _ _ a b => appN a b) (fun _ => []) (fun _ a => a) (fun _ => []) (fun _ => []) [] (fun _ => []) c
def codeOf (P : Program) (f : FuncId) : Code := match P.funcs.toList[f]? with
  | some fn => (match fn.body with | some c => c | none => .skip)
  | none => .skip
def loopAt (P : Program) (f : FuncId) (i : Nat) : Code := match atN (loopsOf (codeOf P f)) i with
  | some b => b
  | none => .skip
def vcC (top : Bool) (n : Nat) (c : Code) : Nat → Nat → Env → Heap → (Ex → Env → Heap → Prop) → Prop :=
  Code.rec (motive := fun _ => Nat → Nat → Env → Heap → (Ex → Env → Heap → Prop) → Prop)
    (fun _ _ ρ H Q => Q .normal ρ H)
    (fun _ ops d _ _ ρ H Q => vcR P n ops.toList d ρ H (Q .normal))
    (fun a b ia ib N X ρ H Q => match joinB a b with
      | true => wJoin (fun J => ia (live b N X) X ρ H (seqQ (fun ρ H => J (mapN ρ (bits n (live b N X))) H) Q)) (fun l H => ib N X (envOf (bits n (live b N X)) l) H Q)
      | false => ia (live b N X) X ρ H (seqQ (fun ρ H => ib N X ρ H Q) Q))
    (fun c _ _ ia ib N X ρ H Q => wIf (ev c ρ) (ia N X ρ H Q) (ib N X ρ H Q))
    (fun id _ ib N X ρ H Q => ib N (Nat.lor N X) ρ H (blockQ id Q))
    (fun b _ _ X ρ H Q => match Nat.beq (live b (live b 0 X) X) (live b 0 X) with
      | true => wLoop P top n b X (mapN ρ (bits n (live b 0 X))) H (fun id l H => Q (.exit id) (envOf (bits n X) l) H) (fun l H => Q .ret (envOf (bits n X) l) H)
      | false => False)
    (fun _ _ _ _ _ _ _ _ _ _ _ => False)
    (fun id _ _ ρ H Q => Q (.exit id) ρ H)
    (fun _ _ _ _ _ _ _ => False)
    (fun _ _ _ ρ H Q => Q .normal ρ H)
    (fun _ _ _ _ _ _ => False)
    (fun _ _ ρ H Q => Q .ret ρ H)
    (fun _ _ _ _ _ _ => False) c

def res1 (r : ResultVar) (ρ : Env) (H : Heap) (K : Value → Prop) : Prop := match r with
  | .tmp t => K (ρ t)
  | .cell a t => opW ((loadC P t).f (ρ a) H) fun v _ => K v
def resL (rs : List ResultVar) (ρ : Env) (H : Heap) : (List Value → Prop) → Prop :=
  List.rec (motive := fun _ => (List Value → Prop) → Prop) (fun k => k []) (fun r _ ih k => res1 P r ρ H fun v => ih fun vs => k (v :: vs)) rs
def resW (rs : List ResultVar) (ρ : Env) (H : Heap) (K : Value → Heap → Prop) : Prop := match rs with
  | [r] => res1 P r ρ H fun v => K v H
  | rs => resL P rs ρ H fun vs => K (.tuple vs.toArray) H
def rdR (r : ResultVar) : Nat := match r with | .tmp t => Nat.shiftLeft 1 t | .cell a _ => Nat.shiftLeft 1 a
def rdRes (rs : List ResultVar) : Nat := List.rec (motive := fun _ => Nat) 0 (fun r _ ih => Nat.lor (rdR r) ih) rs
def endQ (rs : List ResultVar) (K : Value → Heap → Prop) : Ex → Env → Heap → Prop
  | .normal => fun ρ H => resW P rs ρ H K
  | .exit _ => fun _ _ => False
  | .ret => fun ρ H => resW P rs ρ H K
def vcF (f : FuncId) (args : List Value) (H : Heap) (K : Value → Heap → Prop) : Prop := match P.funcs.toList[f]? with
  | some fn => match fn.body with
    | some c => match Nat.ble (lenN args) fn.ntmps with
      | true => vcC P true fn.ntmps c (rdRes fn.results.toList) (rdRes fn.results.toList) (fun i => nth args i) H (endQ P fn.results.toList K)
      | false => False
    | none => False
  | none => False
end
end
end Go.Ab
