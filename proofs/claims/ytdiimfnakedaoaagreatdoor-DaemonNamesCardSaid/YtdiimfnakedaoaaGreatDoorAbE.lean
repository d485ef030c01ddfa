/- texts of the proof, one behind the other -/
import Derived.Test.YtdiimfnakedaoaaGreatDoorAbD
set_option linter.unusedVariables false
set_option linter.unusedSimpArgs false
set_option linter.unusedSectionVars false
namespace Go.Ab
open Go
noncomputable section
structure N16 (α : Type) where
  a : α
  b : α
  c : α
  d : α
  e : α
  f : α
  g : α
  h : α
  i : α
  j : α
  k : α
  l : α
  m : α
  n : α
  o : α
  p : α
structure Fn1 (α β : Type) where g : α → β
structure Up16 (α : Type) where g : N16 α → (α → α) → N16 α
def sel16 {α : Type} (k : Nat) : Fn1 (N16 α) α := match k with
  | 0 => ⟨N16.rec (motive := fun _ => α) fun x _ _ _ _ _ _ _ _ _ _ _ _ _ _ _ => x⟩
  | 1 => ⟨N16.rec (motive := fun _ => α) fun _ x _ _ _ _ _ _ _ _ _ _ _ _ _ _ => x⟩
  | 2 => ⟨N16.rec (motive := fun _ => α) fun _ _ x _ _ _ _ _ _ _ _ _ _ _ _ _ => x⟩
  | 3 => ⟨N16.rec (motive := fun _ => α) fun _ _ _ x _ _ _ _ _ _ _ _ _ _ _ _ => x⟩
  | 4 => ⟨N16.rec (motive := fun _ => α) fun _ _ _ _ x _ _ _ _ _ _ _ _ _ _ _ => x⟩
  | 5 => ⟨N16.rec (motive := fun _ => α) fun _ _ _ _ _ x _ _ _ _ _ _ _ _ _ _ => x⟩
  | 6 => ⟨N16.rec (motive := fun _ => α) fun _ _ _ _ _ _ x _ _ _ _ _ _ _ _ _ => x⟩
  | 7 => ⟨N16.rec (motive := fun _ => α) fun _ _ _ _ _ _ _ x _ _ _ _ _ _ _ _ => x⟩
  | 8 => ⟨N16.rec (motive := fun _ => α) fun _ _ _ _ _ _ _ _ x _ _ _ _ _ _ _ => x⟩
  | 9 => ⟨N16.rec (motive := fun _ => α) fun _ _ _ _ _ _ _ _ _ x _ _ _ _ _ _ => x⟩
  | 10 => ⟨N16.rec (motive := fun _ => α) fun _ _ _ _ _ _ _ _ _ _ x _ _ _ _ _ => x⟩
  | 11 => ⟨N16.rec (motive := fun _ => α) fun _ _ _ _ _ _ _ _ _ _ _ x _ _ _ _ => x⟩
  | 12 => ⟨N16.rec (motive := fun _ => α) fun _ _ _ _ _ _ _ _ _ _ _ _ x _ _ _ => x⟩
  | 13 => ⟨N16.rec (motive := fun _ => α) fun _ _ _ _ _ _ _ _ _ _ _ _ _ x _ _ => x⟩
  | 14 => ⟨N16.rec (motive := fun _ => α) fun _ _ _ _ _ _ _ _ _ _ _ _ _ _ x _ => x⟩
  | _ => ⟨N16.rec (motive := fun _ => α) fun _ _ _ _ _ _ _ _ _ _ _ _ _ _ _ x => x⟩
def upd16 {α : Type} (k : Nat) : Up16 α := match k with
  | 0 => ⟨fun x u => N16.rec (motive := fun _ => N16 α) (fun a b c d e f g h i j k l m n o p => ⟨u a, b, c, d, e, f, g, h, i, j, k, l, m, n, o, p⟩) x⟩
  | 1 => ⟨fun x u => N16.rec (motive := fun _ => N16 α) (fun a b c d e f g h i j k l m n o p => ⟨a, u b, c, d, e, f, g, h, i, j, k, l, m, n, o, p⟩) x⟩
  | 2 => ⟨fun x u => N16.rec (motive := fun _ => N16 α) (fun a b c d e f g h i j k l m n o p => ⟨a, b, u c, d, e, f, g, h, i, j, k, l, m, n, o, p⟩) x⟩
  | 3 => ⟨fun x u => N16.rec (motive := fun _ => N16 α) (fun a b c d e f g h i j k l m n o p => ⟨a, b, c, u d, e, f, g, h, i, j, k, l, m, n, o, p⟩) x⟩
  | 4 => ⟨fun x u => N16.rec (motive := fun _ => N16 α) (fun a b c d e f g h i j k l m n o p => ⟨a, b, c, d, u e, f, g, h, i, j, k, l, m, n, o, p⟩) x⟩
  | 5 => ⟨fun x u => N16.rec (motive := fun _ => N16 α) (fun a b c d e f g h i j k l m n o p => ⟨a, b, c, d, e, u f, g, h, i, j, k, l, m, n, o, p⟩) x⟩
  | 6 => ⟨fun x u => N16.rec (motive := fun _ => N16 α) (fun a b c d e f g h i j k l m n o p => ⟨a, b, c, d, e, f, u g, h, i, j, k, l, m, n, o, p⟩) x⟩
  | 7 => ⟨fun x u => N16.rec (motive := fun _ => N16 α) (fun a b c d e f g h i j k l m n o p => ⟨a, b, c, d, e, f, g, u h, i, j, k, l, m, n, o, p⟩) x⟩
  | 8 => ⟨fun x u => N16.rec (motive := fun _ => N16 α) (fun a b c d e f g h i j k l m n o p => ⟨a, b, c, d, e, f, g, h, u i, j, k, l, m, n, o, p⟩) x⟩
  | 9 => ⟨fun x u => N16.rec (motive := fun _ => N16 α) (fun a b c d e f g h i j k l m n o p => ⟨a, b, c, d, e, f, g, h, i, u j, k, l, m, n, o, p⟩) x⟩
  | 10 => ⟨fun x u => N16.rec (motive := fun _ => N16 α) (fun a b c d e f g h i j k l m n o p => ⟨a, b, c, d, e, f, g, h, i, j, u k, l, m, n, o, p⟩) x⟩
  | 11 => ⟨fun x u => N16.rec (motive := fun _ => N16 α) (fun a b c d e f g h i j k l m n o p => ⟨a, b, c, d, e, f, g, h, i, j, k, u l, m, n, o, p⟩) x⟩
  | 12 => ⟨fun x u => N16.rec (motive := fun _ => N16 α) (fun a b c d e f g h i j k l m n o p => ⟨a, b, c, d, e, f, g, h, i, j, k, l, u m, n, o, p⟩) x⟩
  | 13 => ⟨fun x u => N16.rec (motive := fun _ => N16 α) (fun a b c d e f g h i j k l m n o p => ⟨a, b, c, d, e, f, g, h, i, j, k, l, m, u n, o, p⟩) x⟩
  | 14 => ⟨fun x u => N16.rec (motive := fun _ => N16 α) (fun a b c d e f g h i j k l m n o p => ⟨a, b, c, d, e, f, g, h, i, j, k, l, m, n, u o, p⟩) x⟩
  | _ => ⟨fun x u => N16.rec (motive := fun _ => N16 α) (fun a b c d e f g h i j k l m n o p => ⟨a, b, c, d, e, f, g, h, i, j, k, l, m, n, o, u p⟩) x⟩
abbrev RT := N16 (N16 Value)
def all16 {α : Type} (x : α) : N16 α := ⟨x, x, x, x, x, x, x, x, x, x, x, x, x, x, x, x⟩
def rt0 : RT := all16 (all16 undef)
def inB (n t : Nat) : Bool := Nat.blt t n && Nat.ble n 256
def g2 (n t : Nat) : Fn1 RT Value := match inB n t with
  | true => match @sel16 Value (Nat.mod t 16), @sel16 (N16 Value) (Nat.div t 16) with
    | a, b => ⟨fun T => a.g (b.g T)⟩
  | false => ⟨fun _ => undef⟩
structure PF2 where g : RT → Value → RT
def p2 (n : Nat) (d : Option Tmp) : PF2 := match d with
  | some t => match inB n t with
    | true => match @upd16 Value (Nat.mod t 16), @upd16 (N16 Value) (Nat.div t 16) with
      | a, b => ⟨fun T v => b.g T fun x => a.g x fun _ => v⟩
    | false => ⟨fun T _ => T⟩
  | none => ⟨fun T _ => T⟩
def ev2 (n : Nat) (o : Operand) : Fn1 RT Value := match o with
  | .tmp t => g2 n t
  | .const v => ⟨fun _ => v⟩
  | .global g => ⟨fun _ => .pointer (some ⟨g, 0, none⟩)⟩
  | .func f => ⟨fun _ => .func (.func f) #[] #[]⟩
def consF (a : Fn1 RT Value) (b : Fn1 RT (List Value)) : Fn1 RT (List Value) := ⟨fun T => a.g T :: b.g T⟩
def evs2 (n : Nat) (l : List Operand) : Fn1 RT (List Value) := match l with
  | [] => ⟨fun _ => []⟩
  | o :: r => consF (ev2 n o) (evs2 n r)
def rn (i : Nat) (o : Operand) : Operand := match o with
  | .tmp _ => .tmp i
  | o => o
def rnL : List Operand → Nat → List Operand
  | [], _ => []
  | o :: r, i => rn i o :: rnL r (i + 1)
def rnP : List (Nat × Operand) → Nat → List (Nat × Operand)
  | [], _ => []
  | (k, o) :: r, i => (k, rn i o) :: rnP r (i + 1)
def rnO (i : Nat) (o : Option Operand) : Option Operand := match o with
  | some o => some (rn i o)
  | none => none
def oN (o : Option Operand) : Nat := match o with
  | some _ => 1
  | none => 0
def reCallee (c : Callee) : Callee := match c with
  | .value f => .value (rn 0 f)
  | .invoke r n => .invoke (rn 0 r) n
  | .builtin b => .builtin b
def calleeN (c : Callee) : Nat := match c with
  | .builtin _ => 0
  | _ => 1
def reop (op : Op) : Option Op := match op with
  | .move x => some (.move (rn 0 x))
  | .assign x => some (.assign (rn 0 x))
  | .pick c a b => some (.pick (rn 0 c) (rn 1 a) (rn 2 b))
  | .alloc t => some (.alloc t)
  | .box t x => some (.box t (rn 0 x))
  | .build t ps => some (.build t (rnP ps.toList 0).toArray)
  | .buildSlice t l ps => some (.buildSlice t l (rnP ps.toList 0).toArray)
  | .insert t m k v => some (.insert t (rn 0 m) (rn 1 k) (rn 2 v))
  | .load t a => some (.load t (rn 0 a))
  | .store t a x => some (.store t (rn 0 a) (rn 1 x))
  | .nilCheck x => some (.nilCheck (rn 0 x))
  | .binOp op t x y u => some (.binOp op t (rn 0 x) (rn 1 y) u)
  | .unOp op t x => some (.unOp op t (rn 0 x))
  | .convert s d x => some (.convert s d (rn 0 x))
  | .makeInterface t x => some (.makeInterface t (rn 0 x))
  | .makeFunc fn a b => some (.makeFunc fn (rnL a.toList 0).toArray (rnL b.toList a.toList.length).toArray)
  | .makeMap t r => match r with
    | none => some (.makeMap t none)
    | some _ => none
  | .makeSlice t l c => some (.makeSlice t (rn 0 l) (rn 1 c))
  | .slice t x l h m => some (.slice t (rn 0 x) (rnO 1 l) (rnO (1 + oN l) h) (rnO (1 + oN l + oN h) m))
  | .fieldAddr t x f => some (.fieldAddr t (rn 0 x) f)
  | .field t x f => some (.field t (rn 0 x) f)
  | .indexAddr t x i => some (.indexAddr t (rn 0 x) (rn 1 i))
  | .index t x i => some (.index t (rn 0 x) (rn 1 i))
  | .lookup t x i o => some (.lookup t (rn 0 x) (rn 1 i) o)
  | .mapUpdate t m k v => some (.mapUpdate t (rn 0 m) (rn 1 k) (rn 2 v))
  | .typeAssert x a b o => some (.typeAssert (rn 0 x) a b o)
  | .extract x i => some (.extract (rn 0 x) i)
  | .call c => some (.call { c with callee := reCallee c.callee, args := (rnL c.args.toList (calleeN c.callee)).toArray })
  | _ => none
inductive Task2 where
  | loop (n : Nat) (top : Bool) (c : Code) (T : RT) (H : Heap)
  | call (f : FuncId) (args : List Value) (H : Heap)
  | round (l : Nat) (args : List Value) (H : Heap)
structure Out2 where
  ex : Ex
  T : RT
  H : Heap
abbrev Self2 := Task2 → Option Out2
def retT (v : Value) : RT := ⟨⟨v, undef, undef, undef, undef, undef, undef, undef, undef, undef, undef, undef, undef, undef, undef, undef⟩, all16 undef, all16 undef, all16 undef, all16 undef, all16 undef, all16 undef, all16 undef, all16 undef, all16 undef, all16 undef, all16 undef, all16 undef, all16 undef, all16 undef, all16 undef⟩
def fstT (T : RT) : Value := N16.rec (motive := fun _ => Value) (fun a _ _ _ _ _ _ _ _ _ _ _ _ _ _ _ => N16.rec (motive := fun _ => Value) (fun a _ _ _ _ _ _ _ _ _ _ _ _ _ _ _ => a) a) T
def retO (o : Option Out2) : Option Out := Option.rec (motive := fun _ => Option Out) none (fun x => Out2.rec (motive := fun _ => Option Out) (fun e T H => some ⟨e, [fstT T], H⟩) x) o
def lift (self : Self2) : Self := fun t => match t with
  | .call f args H => retO (self (.call f args H))
  | .round l args H => retO (self (.round l args H))
  | _ => none
def fo {α : Type} (x : Nat) (k : Nat → α) : α := Nat.rec (motive := fun _ => α) (k 0) (fun n _ => k (Nat.succ n)) x
def nrm {α : Type} (H : Heap) (k : Heap → α) : α := Heap.rec (motive := fun _ => α) (fun t n f l => fo n fun n => fo f fun f => k ⟨t, n, f, l⟩) H
section
variable (P : Program)
structure SF2 where f : Self2 → RT → Heap → R
def mkS (s : SF) (v : Fn1 RT (List Value)) : SF2 := ⟨fun self T H => s.f (lift self) (v.g T) H⟩
structure CF2 where f : Value → Value → Heap → R
def one2 (op : Op) : Option (CF × Operand) := match op with
  | .move x => some (⟨fun v H => some (v, H)⟩, x)
  | .assign x => some (⟨fun v H => some (v, H)⟩, x)
  | .load t a => match loadC P t with | c => some (c, a)
  | .nilCheck x => some (⟨fun v H => withH H (nilCheckA v)⟩, x)
  | .unOp op _ x => some (⟨fun v H => withH H (unA op v)⟩, x)
  | .convert s d x => match convC P s d with | c => some (c, x)
  | .fieldAddr s x f => match fieldAddrC P s f with | c => some (⟨fun v H => withH H (c.f v)⟩, x)
  | .field t x f => match fieldC P t f with | c => some (⟨fun v H => withH H (c.f v)⟩, x)
  | _ => none
def two2 (op : Op) : Option (CF2 × Operand × Operand) := match op with
  | .store t a x => match sizeB P t with
    | some n => some (⟨fun a v H => storeTo n a v H⟩, a, x)
    | none => none
  | .binOp op t x y _ => match binC P op t (isConstB x || isConstB y) with
    | c => some (⟨fun v u H => withH H (c.f v u)⟩, x, y)
  | .indexAddr t x i => match indexAddrC P t with
    | c => some (⟨fun v u H => withH H (c.f v u)⟩, x, i)
  | .index t x i => match indexC P t with
    | c => some (⟨fun v u H => withH H (c.f v u)⟩, x, i)
  | _ => none
def stepR (n : Nat) (op : Op) : SF2 := match reop op with
  | some op' => mkS (stepC P op') (evs2 n op.operands.toList)
  | none => ⟨fun _ _ _ => none⟩
def step2 (n : Nat) (op : Op) : SF2 := match one2 P op with
  | some (c, x) => match operandOk P x with
    | true => match c.f, ev2 n x with
      | c, x => ⟨fun _ T H => c (x.g T) H⟩
    | false => ⟨fun _ _ _ => none⟩
  | none => match two2 P op with
    | some (c, x, y) => match operandOk P x && operandOk P y with
      | true => match c.f, ev2 n x, ev2 n y with
        | c, x, y => ⟨fun _ T H => c (x.g T) (y.g T) H⟩
      | false => ⟨fun _ _ _ => none⟩
    | none => stepR P n op
structure WF2 where f : RT → Bool
def isB (v : Value) (w : Bool) : Bool := match v with
  | .bool b => b == w
  | _ => false
def want2 (n : Nat) (all : List Oper) (g : Option (Nat × Bool)) : WF2 :=
  match g with
  | none => ⟨fun _ => true⟩
  | some (j, want) => match (all[j]?).bind (·.dst) with
    | some d => match g2 n d with
      | a => ⟨fun T => isB (a.g T) want⟩
    | none => ⟨fun _ => false⟩
structure K2 where f : Self2 → RT → Heap → Option Out2
def opK0 (s : SF2) (p : PF2) (k : K2) : K2 := ⟨fun self T H => Option.rec (motive := fun _ => Option Out2) none (fun x => Prod.rec (motive := fun _ => Option Out2) (fun v H' => k.f self (p.g T v) H') x) (s.f self T H)⟩
def opK1 (s : SF2) (p : PF2) (k : K2) : K2 := ⟨fun self T H => Option.rec (motive := fun _ => Option Out2) none (fun x => Prod.rec (motive := fun _ => Option Out2) (fun v H' => nrm H' fun H' => k.f self (p.g T v) H') x) (s.f self T H)⟩
def opKw (w : WF2) (p : PF2) (a k : K2) : K2 := ⟨fun self T H => Bool.rec (motive := fun _ => Option Out2) (k.f self (p.g T undef) H) (a.f self T H) (w.f T)⟩
def memB (op : Op) : Bool := match op with
  | .move _ => false
  | .assign _ => false
  | .load _ _ => false
  | .binOp _ _ _ _ _ => false
  | .nilCheck _ => false
  | .indexAddr _ _ _ => false
  | .fieldAddr _ _ _ => false
  | .index _ _ _ => false
  | .field _ _ _ => false
  | .extract _ _ => false
  | _ => true
def opKn (b : Bool) (s : SF2) (p : PF2) (k : K2) : K2 := match b with
  | true => opK1 s p k
  | false => opK0 s p k
def opK (g : Option (Nat × Bool)) (b : Bool) (w : WF2) (s : SF2) (p : PF2) (k : K2) : K2 := match g with
  | none => opKn b s p k
  | some _ => opKw w p (opKn b s p k) k
def opsK (n : Nat) (all l : List Oper) : K2 := List.rec (motive := fun _ => K2) ⟨fun _ T H => some ⟨.normal, T, H⟩⟩
  (fun o _ ih => opK o.guard (memB o.op) (want2 n all o.guard) (step2 P n o.op) (p2 n o.dst) ih) l
structure D2 where f : Self2 → RT → Heap → List Rec → Option Out2
def ids2 (p : Nat) (v : Fn1 RT (List Value)) : Fn1 RT (List Nat) := match p with
  | 1 => ⟨fun T => idsOf (v.g T)⟩
  | 4 => ⟨fun T => idsOf (v.g T)⟩
  | _ => ⟨fun _ => []⟩
def rec2 (p : Plan) (ids : Fn1 RT (List Nat)) (T : RT) (H H' : Heap) : Rec := ⟨p.ix, p.kind, ids.g T, H.next, H'.next, match p.kind with | 3 => sameB H H' | _ => fun _ => false⟩
def stepB (b : Bool) (s : SF2) : SF2 := match b with
  | true => ⟨fun self T H => bareR H (s.f self T (bare H))⟩
  | false => s
def opD (w : WF2) (s : SF2) (p : PF2) (pl : Plan) (ids : Fn1 RT (List Nat)) (k : D2) : D2 := ⟨fun self T H rs => Bool.rec (motive := fun _ => Option Out2) (k.f self (p.g T undef) H rs) (Option.rec (motive := fun _ => Option Out2) none (fun x => Prod.rec (motive := fun _ => Option Out2) (fun v H' => nrm H' fun H' =>
   Bool.rec (motive := fun _ => Option Out2) none (k.f self (p.g T v) H' (rec2 pl ids T H H' :: rs)) (fitsAll pl (rec2 pl ids T H H') rs)) x) (s.f self T H)) (w.f T)⟩
def opsD2 (n : Nat) (all : List Oper) (l : List (Oper × Plan)) : D2 := List.rec (motive := fun _ => D2) ⟨fun _ T H _ => some ⟨.normal, T, H⟩⟩
  (fun o _ ih => opD (want2 n all o.1.guard) (stepB o.2.bare (step2 P n o.1.op)) (p2 n o.1.dst) o.2 (ids2 o.2.kind (evs2 n o.1.op.operands.toList)) ih) l
def draw2 (n : Nat) (all : List Oper) : K2 := match apartAll all with
  | true => match opsD2 P n all (plans P all) with
    | d => ⟨fun self T H => d.f self T H []⟩
  | false => ⟨fun _ _ _ => none⟩
def out2 (o : Option Out2) (k : Ex → RT → Heap → Option Out2) : Option Out2 := Option.rec (motive := fun _ => Option Out2) none (fun x => Out2.rec (motive := fun _ => Option Out2) k x) o
def seq2 (a b : K2) : K2 := ⟨fun self T H => out2 (a.f self T H) fun e T H => Ex.rec (motive := fun _ => Option Out2) (b.f self T H) (fun i => some ⟨.exit i, T, H⟩) (some ⟨.ret, T, H⟩) e⟩
def condV (v : Value) (a b : Option Out2) : Option Out2 := match v with
  | .bool t => Bool.rec (motive := fun _ => Option Out2) b a t
  | _ => none
def cond2 (c : Fn1 RT Value) (a b : K2) : K2 := ⟨fun self T H => condV (c.g T) (a.f self T H) (b.f self T H)⟩
def block2 (id : Nat) (a : K2) : K2 := ⟨fun self T H => out2 (a.f self T H) fun e T H => Ex.rec (motive := fun _ => Option Out2) (some ⟨.normal, T, H⟩) (fun i => Bool.rec (motive := fun _ => Option Out2) (some ⟨.exit i, T, H⟩) (some ⟨.normal, T, H⟩) (Nat.beq i id)) (some ⟨.ret, T, H⟩) e⟩
def putFrom (n : Nat) : List Value → Nat → RT → RT
  | [], _, T => T
  | v :: r, i, T => putFrom n r (i + 1) ((p2 n (some i)).g T v)
def listOf (n : Nat) (T : RT) : Nat → List Value → List Value
  | 0, l => l
  | k + 1, l => listOf n T k ((g2 n k).g T :: l)
def endR2 (T : RT) (l : Nat) (H : Heap) : Option Out2 := match endRange [] l H with
  | some ⟨e, _, H⟩ => some ⟨e, T, H⟩
  | none => none
def evT2 (n : Nat) (o : Operand) : Fn1 RT Value := match o with
  | .tmp t => g2 n t
  | _ => ⟨fun _ => undef⟩
def range2 (n : Nat) (g : Fn1 RT Value) (ps : List Tmp) (asg body : Code) : K2 := ⟨fun self T H => match callee1 (g.g T) [yieldV (Nat.succ H.next)] with
  | some t => match t with
    | .fn f args => out2 (self (.call f args (laid (listOf n T n []) ps asg body H))) fun _ _ H1 => nrm H1 fun H1 => endR2 T (Nat.succ H.next) H1
    | .yld _ _ => none
  | none => none⟩
def codeK (n : Nat) (top : Bool) (c : Code) : K2 :=
  Code.rec (motive := fun _ => K2)
    ⟨fun _ T H => some ⟨.normal, T, H⟩⟩
    (fun _ ops d => match d with
      | true => draw2 P n ops.toList
      | false => opsK P n ops.toList ops.toList)
    (fun _ _ x y => seq2 x y)
    (fun c _ _ x y => cond2 (ev2 n c) x y)
    (fun id _ x => block2 id x)
    (fun b _ => ⟨fun self T H => self (.loop n top b T H)⟩)
    (fun g ps asg b _ _ => match top with
      | true => range2 n (evT2 n g) ps.toList asg b
      | false => ⟨fun _ _ _ => none⟩)
    (fun id => ⟨fun _ T H => some ⟨.exit id, T, H⟩⟩)
    (fun _ _ => ⟨fun _ _ _ => none⟩)
    (fun _ => ⟨fun _ T H => some ⟨.normal, T, H⟩⟩)
    (fun _ => ⟨fun _ _ _ => none⟩)
    ⟨fun _ T H => some ⟨.ret, T, H⟩⟩
    (fun _ => ⟨fun _ _ _ => none⟩) c
structure ResF where f : RT → Heap → Option Value
def rsO2 (n : Nat) (r : ResultVar) : ResF := match r with
  | .tmp t => match g2 n t with
    | a => ⟨fun T _ => some (a.g T)⟩
  | .cell a t => match g2 n a with
    | a => ⟨fun T H => match (loadC P t).f (a.g T) H with
      | some (v, _) => some v
      | none => none⟩
structure ResL where f : RT → Heap → Option (List Value)
def rsL2 (n : Nat) (l : List ResultVar) : ResL := match l with
  | [] => ⟨fun _ _ => some []⟩
  | r :: rs => ⟨fun T H => match (rsO2 P n r).f T H with
    | some v => match (rsL2 n rs).f T H with
      | some vs => some (v :: vs)
      | none => none
    | none => none⟩
def res2 (n : Nat) (rs : List ResultVar) : ResF := match rs with
  | [r] => rsO2 P n r
  | rs => ⟨fun T H => match (rsL2 P n rs).f T H with
    | some vs => some (.tuple vs.toArray)
    | none => none⟩
structure F2 where f : Self2 → List Value → Heap → Option Out2
def endF (r : ResF) (e : Ex) (T : RT) (H : Heap) : Option Out2 := match e with
  | .exit _ => none
  | _ => match r.f T H with
    | some v => some ⟨.ret, retT v, H⟩
    | none => none
def end2 (n m : Nat) (r : ResF) (k : K2) : F2 := match Nat.ble n 256 with
  | true => ⟨fun self args H => match Nat.ble (lenN args) n && Nat.ble (lenN args) m with
    | true => out2 (k.f self (putFrom n args 0 rt0) H) (endF r)
    | false => none⟩
  | false => ⟨fun _ _ _ => none⟩
structure TF where f : List Value → Heap → Option Value
structure Tb where
  tab : FuncId → Option TF
  bod : FuncId → Option Code
def fnB (f : FuncId) (c : Code) : F2 := match atN P.funcs.toList f with
  | some fn => end2 fn.ntmps (fn.params.size + fn.nfree) (res2 P fn.ntmps fn.results.toList) (codeK P fn.ntmps true c)
  | none => ⟨fun _ _ _ => none⟩
def fn2 (f : FuncId) : F2 := match atN P.funcs.toList f with
  | some fn => match fn.body with
    | some c => end2 fn.ntmps fn.ntmps (res2 P fn.ntmps fn.results.toList) (codeK P fn.ntmps true c)
    | none => ⟨fun _ _ _ => none⟩
  | none => ⟨fun _ _ _ => none⟩
def orF (t : TF) (g : F2) : F2 := ⟨fun self args H => match t.f args H with
  | some v => some ⟨.ret, retT v, H⟩
  | none => g.f self args H⟩
def fnA (tb : Tb) (f : FuncId) : F2 := match tb.bod f with
  | some c => fnB P f c
  | none => fn2 P f
def fnT (tb : Tb) (f : FuncId) : F2 := match tb.tab f with
  | some t => orF t (fnA P tb f)
  | none => fnA P tb f
def loop2 (n : Nat) (k : K2) (self : Self2) (top : Bool) (c : Code) (T : RT) (H : Heap) : Option Out2 := out2 (k.f self T H) fun e T H => Ex.rec (motive := fun _ => Option Out2) (self (.loop n top c T H)) (fun i => some ⟨.exit i, T, H⟩) (some ⟨.ret, T, H⟩) e
def endQ2 (l : Nat) (e : Ex) (_ : RT) (H : Heap) : Option Out2 := match mark l (stOf e) H with
  | some H1 => some ⟨.ret, retT (.bool (goesOn e)), H1⟩
  | none => none
def round2 (self : Self2) (l : Nat) (args : List Value) (H : Heap) : Option Out2 := match getL H.lps l with
  | some r => match (Nat.beq (lenN args) (lenN r.ps) && not (isMp r)) && Nat.ble (lenN r.T) 256 with
    | true => out2 ((codeK P (lenN r.T) false r.asg).f self (putFrom (lenN r.T) (putAll r.T r.ps args) 0 rt0) H) fun e T1 H1 => match e with
      | .normal => match beginR l H1 with
        | some H2 => out2 ((codeK P (lenN r.T) false r.body).f self T1 H2) (endQ2 l)
        | none => none
      | _ => none
    | false => none
  | none => none
def step3 (tb : Tb) (self : Self2) (t : Task2) : Option Out2 := match t with
  | .loop n top c T H => loop2 n (codeK P n top c) self top c T H
  | .call f args H => (fnT P tb f).f self args H
  | .round l args H => round2 P self l args H
def run2 (tb : Tb) (n : Nat) : Self2 := Nat.rec (motive := fun _ => Self2) (fun _ => none) (fun _ ih t => step3 P tb ih t) n
def isT2 (o : Option Out2) : Bool := match o with
  | some ⟨_, T, _⟩ => match fstT T with
    | .bool b => b
    | _ => false
  | none => false
end
def outT (o : Option Out2) : Option Value := match o with
  | some ⟨_, T, _⟩ => some (fstT T)
  | none => none
def lookT {α : Type} (l : List (Nat × α)) (f : Nat) : Option α := match l with
  | [] => none
  | (g, x) :: r => match Nat.beq g f with
    | true => some x
    | false => lookT r f
@[reducible] def orcT (tb : Tb) : Orc := ⟨fun f args H => match tb.tab f with
  | some t => t.f args H
  | none => none, tb.bod⟩
end
end Go.Ab
namespace Go.Ab
open Go
set_option linter.unusedVariables false
set_option linter.unusedSimpArgs false
section
variable {α : Type} {n i d j k : Nat} {T : RT} {L V : List Value} {v : Value} {P : Program} {H : Heap} {me : Self} {self : Self2}
theorem lt16 (h : n < 16) : n = 0 ∨ n = 1 ∨ n = 2 ∨ n = 3 ∨ n = 4 ∨ n = 5 ∨ n = 6 ∨ n = 7 ∨ n = 8 ∨ n = 9 ∨ n = 10 ∨ n = 11 ∨ n = 12 ∨ n = 13 ∨ n = 14 ∨ n = 15 := by omega
theorem sel_upd (hj : j < 16) (hk : k < 16) (x : N16 α) (u : α → α) : (sel16 j).g ((upd16 k).g x u) = if j = k then u ((sel16 k).g x) else (sel16 j).g x := by
  rcases lt16 hj with rfl | rfl | rfl | rfl | rfl | rfl | rfl | rfl | rfl | rfl | rfl | rfl | rfl | rfl | rfl | rfl <;> rcases lt16 hk with rfl | rfl | rfl | rfl | rfl | rfl | rfl | rfl | rfl | rfl | rfl | rfl | rfl | rfl | rfl | rfl <;> rfl
theorem sel_all (k : Nat) (x : α) : (sel16 k).g (all16 x) = x := by
  unfold sel16; split <;> rfl
theorem inB_iff : inB n i = true ↔ i < n ∧ n ≤ 256 := by
  unfold inB
  rw [Bool.and_eq_true]
  unfold Nat.blt
  rw [Nat.ble_eq, Nat.ble_eq]; exact Iff.rfl
theorem g2_p2 : (g2 n i).g ((p2 n (some d)).g T v) = if i = d ∧ d < n ∧ n ≤ 256 then v else (g2 n i).g T := by
  unfold g2 p2
  simp only
  cases hd : inB n d with
  | false =>
    rw [if_neg]
    intro h; rw [inB_iff.2 ⟨h.2.1, h.2.2⟩] at hd; cases hd
  | true =>
    have hd := inB_iff.1 hd
    cases hi : inB n i with
    | false =>
      rw [if_neg]
      rintro ⟨rfl, h⟩; rw [inB_iff.2 h] at hi; cases hi
    | true =>
      have hi := inB_iff.1 hi
      show (sel16 (i % 16)).g ((sel16 (i / 16)).g ((upd16 (d / 16)).g T _)) = if _ then v else (sel16 (i % 16)).g ((sel16 (i / 16)).g T)
      rw [sel_upd (by omega) (by omega)]
      by_cases h1 : i / 16 = d / 16
      · rw [if_pos h1]
        show (sel16 (i % 16)).g ((upd16 (d % 16)).g _ _) = _
        rw [sel_upd (by omega) (by omega)]
        by_cases h3 : i % 16 = d % 16
        · rw [if_pos h3, if_pos (by omega)]
        · rw [if_neg h3, if_neg (by omega), h1]
      · rw [if_neg h1, if_neg (by omega)]
def Rl (n : Nat) (T : RT) (L : List Value) : Prop := L.length = n ∧ n ≤ 256 ∧ ∀ i, (g2 n i).g T = nth L i
theorem nth_set2 : nth (setN L d v) i = if i = d ∧ d < L.length then v else nth L i := by
  rw [nth_eq, setN_eq, nth_eq]
  grind
theorem Rl.put (h : Rl n T L) (d : Option Tmp) (v : Value) : Rl n ((p2 n d).g T v) (putT L d v) := by
  cases d with
  | none => exact h
  | some d =>
    refine ⟨?_, h.2.1, fun i => ?_⟩
    · show (setN L d v).length = n
      rw [setN_eq, List.length_set]; exact h.1
    · rw [g2_p2, h.2.2]
      show _ = nth (setN L d v) i
      rw [nth_set2, h.1]
      have := h.2.1
      grind
theorem ev2_ok (h : Rl n T L) (o : Operand) : (ev2 n o).g T = (evC o).g L := by
  cases o with
  | tmp t => exact h.2.2 t
  | _ => rfl
theorem evT2_ok (h : Rl n T L) (o : Operand) : (evT2 n o).g T = (evT o).g L := by
  cases o with
  | tmp t => exact h.2.2 t
  | _ => rfl
theorem evs2_ok (h : Rl n T L) : ∀ l : List Operand, (evs2 n l).g T = evs l L
  | [] => rfl
  | o :: r => by
    show (ev2 n o).g T :: (evs2 n r).g T = (evC o).g L :: evs r L
    rw [ev2_ok h, evs2_ok h r]
theorem ev_rn {o : Operand} (h : nth V i = (evC o).g L) : (evC (rn i o)).g V = (evC o).g L := by
  cases o with
  | tmp t => exact h
  | _ => rfl
theorem isConst_rn (o : Operand) : isConstB (rn i o) = isConstB o := by cases o <;> rfl
theorem ok_rn (o : Operand) : operandOk P (rn i o) = operandOk P o := by cases o <;> rfl
theorem nth_mid (A B : List Value) (x : Value) : nth (A ++ x :: B) A.length = x := by simp [nth_eq]
theorem evs_rnL : ∀ (l : List Operand) (A B : List Value), evs (rnL l A.length) (A ++ (evs l L ++ B)) = evs l L
  | [], _, _ => rfl
  | o :: r, A, B => by
    show (evC (rn A.length o)).g (A ++ ((evC o).g L :: (evs r L ++ B))) :: evs (rnL r (A.length + 1)) (A ++ ((evC o).g L :: (evs r L ++ B))) = (evC o).g L :: evs r L
    rw [ev_rn (nth_mid A _ _)]
    have := evs_rnL r (A ++ [(evC o).g L]) B
    rw [List.length_append, List.append_assoc] at this
    exact congrArg _ this
theorem evP_rnP : ∀ (l : List (Nat × Operand)) (A B : List Value), evParts (rnP l A.length) (A ++ (evs (l.map (·.2)) L ++ B)) = evParts l L
  | [], _, _ => rfl
  | (k, o) :: r, A, B => by
    show (k, (evC (rn A.length o)).g (A ++ ((evC o).g L :: (evs (r.map (·.2)) L ++ B)))) :: evParts (rnP r (A.length + 1)) (A ++ ((evC o).g L :: (evs (r.map (·.2)) L ++ B))) = (k, (evC o).g L) :: evParts r L
    rw [ev_rn (nth_mid A _ _)]
    have := evP_rnP r (A ++ [(evC o).g L]) B
    rw [List.length_append, List.append_assoc] at this
    exact congrArg _ this
theorem rnP_map : ∀ (l : List (Nat × Operand)) (i : Nat), (rnP l i).map (·.2) = rnL (l.map (·.2)) i
  | [], _ => rfl
  | (k, o) :: r, i => by show rn i o :: (rnP r (i+1)).map (·.2) = rn i o :: rnL (r.map (·.2)) (i + 1); rw [rnP_map]
theorem okL_rnL : ∀ (l : List Operand) (i : Nat), allN (operandOk P) (rnL l i) = allN (operandOk P) l
  | [], _ => rfl
  | o :: r, i => by
    show cond (operandOk P (rn i o)) (allN (operandOk P) (rnL r (i + 1))) false = cond (operandOk P o) (allN (operandOk P) r) false
    rw [ok_rn, okL_rnL]
theorem evs_app : ∀ (a b : List Operand), evs (a ++ b) L = evs a L ++ evs b L
  | [], _ => rfl
  | o :: r, b => congrArg _ (evs_app r b)
theorem evs_len : ∀ (a : List Operand), (evs a L).length = a.length
  | [] => rfl
  | o :: r => congrArg (· + 1) (evs_len r)
theorem rnL_app : ∀ (a b : List Operand) (i : Nat), rnL (a ++ b) i = rnL a i ++ rnL b (i + a.length)
  | [], _, _ => rfl
  | o :: r, b, i => by
    show rn i o :: rnL (r ++ b) (i + 1) = rn i o :: (rnL r (i + 1) ++ rnL b (i + (r.length + 1)))
    rw [rnL_app r b, show i + 1 + r.length = i + (r.length + 1) by omega]
theorem reop_operands {op op' : Op} (h : reop op = some op') : op'.operands.toList = rnL op.operands.toList 0 := by
  cases op <;> simp only [reop, Option.some.injEq, reduceCtorEq] at h <;> first | (subst h; rfl) | skip
  case build t ps => subst h; simp [Op.operands, rnP_map]
  case buildSlice t l ps => subst h; simp [Op.operands, rnP_map]
  case makeFunc fn a b => subst h; simp [Op.operands, rnL_app]
  case makeMap t r => cases r with
    | none => cases h; rfl
    | some r => cases h
  case slice t x l h' m =>
    subst h
    cases l <;> cases h' <;> cases m <;> rfl
  case call c =>
    subst h
    cases hc : c.callee <;> simp [Op.operands, Call.operands, hc, reCallee, calleeN, rnL]
theorem evO_rn {o : Option Operand} (h : ∀ x, o = some x → nth V i = (evC x).g L) : evO (rnO i o) V = evO o L := by
  cases o with
  | none => rfl
  | some x => exact congrArg some (ev_rn (h x rfl))
theorem reop_ok {op op' : Op} (h : reop op = some op') : (stepC P op').f me (evs op.operands.toList L) H = (stepC P op).f me L H := by
  unfold stepC
  rw [reop_operands h, okL_rnL]
  cases allN (operandOk P) op.operands.toList with
  | false => rfl
  | true =>
    simp only
    have e0 : ∀ (x : Operand) (r : List Operand), (evC (rn 0 x)).g (evs (x :: r) L) = (evC x).g L := fun x r => ev_rn rfl
    have e1 : ∀ (y x : Operand) (r : List Operand), (evC (rn 1 x)).g (evs (y :: x :: r) L) = (evC x).g L := fun y x r => ev_rn rfl
    have e2 : ∀ (z y x : Operand) (r : List Operand), (evC (rn 2 x)).g (evs (z :: y :: x :: r) L) = (evC x).g L := fun z y x r => ev_rn rfl
    cases op <;> simp only [reop, Option.some.injEq, reduceCtorEq] at h <;> try subst h
    case move x => simp only [stepC0, opC, Op.operands, e0]
    case assign x => simp only [stepC0, opC, Op.operands, e0]
    case pick c a b => simp only [stepC0, opC, Op.operands, e0, e1, e2]
    case alloc t =>
      simp only [stepC0, opC]
      cases zeroB P t <;> rfl
    case box t x => simp only [stepC0, opC, Op.operands, e0]
    case build t ps =>
      simp only [stepC0, opC, Op.operands]
      have := evP_rnP (L := L) ps.toList [] []
      simp only [List.nil_append, List.append_nil, List.length_nil] at this
      rw [this]
    case buildSlice t l ps =>
      simp only [stepC0, opC, Op.operands]
      have := evP_rnP (L := L) ps.toList [] []
      simp only [List.nil_append, List.append_nil, List.length_nil] at this
      rw [this]
    case insert t m k v => simp only [stepC0, Op.operands, e0, e1, e2]
    case load t a => simp only [stepC0, opC, Op.operands, e0]
    case store t a x =>
      simp only [stepC0, opC]
      cases sizeB P t with
      | none => rfl
      | some n => simp only [Op.operands, e0, e1]
    case nilCheck x => simp only [stepC0, opC, Op.operands, e0]
    case binOp o t x y u => simp only [stepC0, opC, Op.operands, e0, e1, isConst_rn]
    case unOp o t x => simp only [stepC0, opC, Op.operands, e0]
    case convert s d x => simp only [stepC0, opC, Op.operands, e0]
    case makeInterface t x =>
      simp only [stepC0, opC]
      split <;> simp only [Op.operands, e0]
    case makeFunc fn a b =>
      simp only [stepC0, opC]
      cases fn <;> try rfl
      simp only [Op.operands, Array.toList_append, evs_app]
      have h1 := evs_rnL (L := L) a.toList [] (evs b.toList L)
      have h2 := evs_rnL (L := L) b.toList (evs a.toList L) []
      simp only [List.nil_append, List.append_nil, List.length_nil, evs_len] at h1 h2
      rw [h1, h2]
    case makeMap t r => cases r with
      | none => cases h; rfl
      | some r => cases h
    case makeSlice t l c => simp only [stepC0, opC, Op.operands, e0, e1]
    case slice t x l h' m =>
      simp only [stepC0, opC]
      rw [show (evC (rn 0 x)).g _ = (evC x).g L from ev_rn (by cases l <;> cases h' <;> cases m <;> rfl), evO_rn (o := l) (i := 1) (L := L) (fun y e => by subst e; cases h' <;> cases m <;> rfl), evO_rn (o := h') (i := 1 + oN l) (L := L) (fun y e => by subst e; cases l <;> cases m <;> rfl),
        evO_rn (o := m) (i := 1 + oN l + oN h') (L := L) (fun y e => by subst e; cases l <;> cases h' <;> rfl)]
    case fieldAddr t x f => simp only [stepC0, opC, Op.operands, e0]
    case field t x f => simp only [stepC0, opC, Op.operands, e0]
    case indexAddr t x i => simp only [stepC0, opC, Op.operands, e0, e1]
    case index t x i => simp only [stepC0, opC, Op.operands, e0, e1]
    case lookup t x i o => simp only [stepC0, Op.operands, e0, e1]
    case mapUpdate t m k v => simp only [stepC0, Op.operands, e0, e1, e2]
    case typeAssert x a b o => simp only [stepC0, opC, Op.operands, e0]
    case extract x i => simp only [stepC0, opC, Op.operands, e0]
    case call c =>
      have h2 := evs_rnL (L := L) c.args.toList (evs ((match c.callee with | .value f => #[f] | .invoke r _ => #[r] | .builtin _ => #[] : Array Operand)).toList L) []
      cases hc : c.callee with
      | builtin b =>
        simp only [hc, List.append_nil, List.nil_append, evs, List.length_nil] at h2
        simp only [stepC0, hc, reCallee, calleeN, opC, Op.operands, Call.operands, List.nil_append, Array.toList_append, h2]
      | value f =>
        simp only [hc, List.append_nil, evs, List.length_cons, List.length_nil] at h2
        simp only [stepC0, hc, reCallee, calleeN, Op.operands, Call.operands, Array.toList_append, evs_app, evs]
        rw [show (evC (rn 0 f)).g ([(evC f).g L] ++ evs c.args.toList L) = (evC f).g L from ev_rn rfl, h2]
      | invoke r n =>
        simp only [hc, List.append_nil, evs, List.length_cons, List.length_nil] at h2
        simp only [stepC0, hc, reCallee, calleeN, Op.operands, Call.operands, Array.toList_append, evs_app, evs]
        rw [show (evC (rn 0 r)).g ([(evC r).g L] ++ evs c.args.toList L) = (evC r).g L from ev_rn rfl, h2]
end
end Go.Ab
namespace Go.Ab
open Go
local instance : Base := ⟨fun _ => none, 0⟩
set_option linter.unusedVariables false
set_option linter.unusedSimpArgs false
section
variable {n : Nat} {T : RT} {L : List Value} {P : Program} {H : Heap} {me : Self} {self : Self2} {o2 : Out2}
theorem fo_eq {α : Type} (x : Nat) (k : Nat → α) : fo x k = k x := by cases x <;> rfl
theorem nrm_eq {α : Type} (H : Heap) (k : Heap → α) : nrm H k = k H := by
  cases H
  rename_i t a b l
  show fo a (fun n => fo b fun f => k ⟨t, n, f, l⟩) = _
  rw [fo_eq, fo_eq]
structure OR2 (n : Nat) (o2 : Out2) (o : Out) : Prop where
  ex : o.ex = o2.ex
  T : Rl n o2.T o.T
  H : o.H = o2.H
structure SL (s : Self2) (m : Self) : Prop where
  call : Le (lift s) m
  loop : ∀ n top c T L H o2, s (.loop n top c T H) = some o2 → Rl n T L → ∃ o, m (.loop top c L H) = some o ∧ OR2 n o2 o
theorem one2_ok {op : Op} {c : CF} {x : Operand} (h : one2 P op = some (c, x)) (hok : operandOk P x = true) : (stepC P op).f me L H = c.f ((evC x).g L) H := by
  unfold stepC
  have e : ∀ {x : Operand}, operandOk P x = true → allN (operandOk P) [x] = true := fun h => by rw [allN_eq]; simp [h]
  cases op <;> simp only [one2, Option.some.injEq, reduceCtorEq, Prod.mk.injEq] at h <;> obtain ⟨rfl, rfl⟩ := h <;> (show (match allN (operandOk P) [_] with | true => stepC0 P _ | false => _).f me L H = _) <;> rw [e hok] <;> rfl
theorem two2_ok {op : Op} {c : CF2} {x y : Operand} (h : two2 P op = some (c, x, y)) (hok : (operandOk P x && operandOk P y) = true) : (stepC P op).f me L H = c.f ((evC x).g L) ((evC y).g L) H := by
  unfold stepC
  rw [Bool.and_eq_true] at hok
  have e : ∀ {x y : Operand}, operandOk P x = true ∧ operandOk P y = true → allN (operandOk P) [x, y] = true := fun h => by rw [allN_eq]; simp [h.1, h.2]
  cases op <;> simp only [two2, Option.some.injEq, reduceCtorEq, Prod.mk.injEq] at h
  case store t a v =>
    split at h
    · rename_i n hn
      cases h
      show (match allN (operandOk P) [_, _] with | true => stepC0 P _ | false => _).f me L H = _
      rw [e hok]
      simp only [stepC0, opC, hn]
    · cases h
  all_goals
    obtain ⟨rfl, rfl, rfl⟩ := h
    show (match allN (operandOk P) [_, _] with | true => stepC0 P _ | false => _).f me L H = _
    rw [e hok]
    rfl
theorem step2_ok (hs : SL self me) (hR : Rl n T L) {op : Op} {r : Value × Heap} (hr : (step2 P n op).f self T H = some r) : (stepC P op).f me L H = some r := by
  have stepR : (stepR P n op).f self T H = some r → (stepC P op).f me L H = some r := by
   intro hr
   unfold stepR at hr
   split at hr
   · rename_i op' h
     have hr : (stepC P op').f (lift self) ((evs2 n op.operands.toList).g T) H = some r := hr
     rw [evs2_ok hR, reop_ok h] at hr
     exact stepC_le hs.call hr
   · cases hr
  unfold step2 at hr
  split at hr
  · rename_i c x h1
    split at hr
    case h_2 => cases hr
    case h_1 hok =>
    have hr : c.f ((ev2 n x).g T) H = some r := hr
    rw [ev2_ok hR] at hr
    refine Eq.trans ?_ hr
    exact one2_ok h1 hok
  · split at hr
    · rename_i c x y h2
      split at hr
      case h_2 => cases hr
      case h_1 hok =>
      have hr : c.f ((ev2 n x).g T) ((ev2 n y).g T) H = some r := hr
      rw [ev2_ok hR, ev2_ok hR] at hr
      refine Eq.trans ?_ hr
      exact two2_ok h2 hok
    · exact stepR hr
theorem want2_ok (hR : Rl n T L) (all : List Oper) (g : Option (Nat × Bool)) : (want2 n all g).f T = (wantedC all g).f L := by
  unfold want2 wantedC
  cases g with
  | none => rfl
  | some x =>
    obtain ⟨j, w⟩ := x
    simp only
    cases (all[j]?).bind (·.dst) with
    | none => rfl
    | some d =>
      show isB ((g2 n d).g T) w = match nth L d with | .bool b => b == w | _ => false
      rw [hR.2.2]; rfl
theorem opKn_some {b : Bool} {s : SF2} {p : PF2} {k : K2} (hr : (opKn b s p k).f self T H = some o2) : ∃ v H', s.f self T H = some (v, H') ∧ k.f self (p.g T v) H' = some o2 := by
  cases b with
  | true =>
    have hr : Option.rec (motive := fun _ => Option Out2) none (fun x => Prod.rec (motive := fun _ => Option Out2) (fun v H' => nrm H' fun H' => k.f self (p.g T v) H') x) (s.f self T H) = some o2 := hr
    cases h : s.f self T H with
    | none => rw [h] at hr; cases hr
    | some x =>
      obtain ⟨v, H'⟩ := x
      rw [h] at hr
      have hr : nrm H' (fun H' => k.f self (p.g T v) H') = some o2 := hr
      rw [nrm_eq] at hr
      exact ⟨v, H', rfl, hr⟩
  | false =>
    have hr : Option.rec (motive := fun _ => Option Out2) none (fun x => Prod.rec (motive := fun _ => Option Out2) (fun v H' => k.f self (p.g T v) H') x) (s.f self T H) = some o2 := hr
    cases h : s.f self T H with
    | none => rw [h] at hr; cases hr
    | some x =>
      obtain ⟨v, H'⟩ := x
      rw [h] at hr
      exact ⟨v, H', rfl, hr⟩
theorem opK_ok (hs : SL self me) (hR : Rl n T L) (all : List Oper) (o : Oper) {b : Bool} {k : K2} {kA : List Value → Heap → Option Out}
    (hk : ∀ T L H o2, Rl n T L → k.f self T H = some o2 → ∃ o, kA L H = some o ∧ OR2 n o2 o)
    (hr : (opK o.guard b (want2 n all o.guard) (step2 P n o.op) (p2 n o.dst) k).f self T H = some o2) : ∃ o1, opF1 P me o ((wantedC all o.guard).f L) L H kA = some o1 ∧ OR2 n o2 o1 := by
  have yes : ∀ {o2}, (opKn b (step2 P n o.op) (p2 n o.dst) k).f self T H = some o2 → ∃ o1, opF1 P me o true L H kA = some o1 ∧ OR2 n o2 o1 := by
    intro o2 hr
    obtain ⟨v, H', h1, h2⟩ := opKn_some hr
    obtain ⟨o1, g1, g2⟩ := hk _ _ _ _ (hR.put o.dst v) h2
    refine ⟨o1, ?_, g2⟩
    unfold opF1
    simp only
    rw [step2_ok hs hR h1]
    exact g1
  rw [← want2_ok hR]
  cases hg : o.guard with
  | none => rw [hg] at hr; exact yes hr
  | some x =>
    rw [hg] at hr
    have hr : Bool.rec (motive := fun _ => Option Out2) (k.f self ((p2 n o.dst).g T undef) H) ((opKn b (step2 P n o.op) (p2 n o.dst) k).f self T H) ((want2 n all (some x)).f T) = some o2 := hr
    cases hw : (want2 n all (some x)).f T with
    | true => rw [hw] at hr; exact yes hr
    | false => rw [hw] at hr; exact hk _ _ _ _ (hR.put o.dst undef) hr
theorem opsK_ok (hs : SL self me) (all : List Oper) : ∀ (l : List Oper) (T : RT) (L : List Value) (H : Heap) (o2 : Out2), Rl n T L → (opsK P n all l).f self T H = some o2 → ∃ o, opsA P me all l L H = some o ∧ OR2 n o2 o
  | [], T, L, H, o2, hR, hr => by cases hr; exact ⟨_, rfl, rfl, hR, rfl⟩
  | o :: l, T, L, H, o2, hR, hr => opK_ok hs hR all o (fun T L H o2 h1 h2 => opsK_ok hs all l T L H o2 h1 h2) hr
theorem rec2_ok (hR : Rl n T L) (o : Oper) (p : Plan) (H H' : Heap) : rec2 p (ids2 p.kind (evs2 n o.op.operands.toList)) T H H' = mkRec o p L H H' := by
  have : (ids2 p.kind (evs2 n o.op.operands.toList)).g T = match p.kind with | 1 => idsOf (evs o.op.operands.toList L) | 4 => idsOf (evs o.op.operands.toList L) | _ => [] := by
    generalize p.kind = k
    unfold ids2
    split <;> simp_all [evs2_ok hR]
  unfold rec2 mkRec
  rw [this]
  rfl
theorem stepB_ok (hs : SL self me) (hR : Rl n T L) {o : Oper} {p : Plan} {r : Value × Heap} (hr : (stepB p.bare (step2 P n o.op)).f self T H = some r) : stepD P me o p L H = some r := by
  unfold stepD
  cases hb : p.bare with
  | true =>
    rw [hb] at hr
    have hr : bareR H ((step2 P n o.op).f self T (bare H)) = some r := hr
    cases h : (step2 P n o.op).f self T (bare H) with
    | none => rw [h] at hr; cases hr
    | some x => rw [h] at hr; simp only; rw [step2_ok hs hR h]; exact hr
  | false => rw [hb] at hr; exact step2_ok hs hR hr
theorem opsD2_ok (hs : SL self me) (all : List Oper) : ∀ (l : List (Oper × Plan)) (T : RT) (L : List Value) (H : Heap) (rs : List Rec) (o2 : Out2), Rl n T L → (opsD2 P n all l).f self T H rs = some o2 → ∃ o, opsD P me all l L H rs = some o ∧ OR2 n o2 o
  | [], T, L, H, rs, o2, hR, hr => by cases hr; exact ⟨_, rfl, rfl, hR, rfl⟩
  | (o, p) :: l, T, L, H, rs, o2, hR, hr => by
    have ih := opsD2_ok hs all l
    have hr : Bool.rec (motive := fun _ => Option Out2) ((opsD2 P n all l).f self ((p2 n o.dst).g T undef) H rs) (Option.rec (motive := fun _ => Option Out2) none (fun x => Prod.rec (motive := fun _ => Option Out2) (fun v H' => nrm H' fun H' =>
      Bool.rec (motive := fun _ => Option Out2) none ((opsD2 P n all l).f self ((p2 n o.dst).g T v) H' (rec2 p (ids2 p.kind (evs2 n o.op.operands.toList)) T H H' :: rs)) (fitsAll p (rec2 p (ids2 p.kind (evs2 n o.op.operands.toList)) T H H') rs)) x) ((stepB p.bare (step2 P n o.op)).f self T H)) ((want2 n all o.guard).f T) = some o2 := hr
    show ∃ o1, opF2 P me o p ((wantedC all o.guard).f L) L H rs (opsD P me all l) = some o1 ∧ OR2 n o2 o1
    rw [← want2_ok hR]
    cases hw : (want2 n all o.guard).f T with
    | false => rw [hw] at hr; exact ih _ _ _ _ _ (hR.put o.dst undef) hr
    | true =>
      rw [hw] at hr
      simp only at hr
      cases h : (stepB p.bare (step2 P n o.op)).f self T H with
      | none => rw [h] at hr; cases hr
      | some x =>
        obtain ⟨v, H'⟩ := x
        rw [h] at hr
        simp only [nrm_eq, rec2_ok hR] at hr
        unfold opF2
        simp only
        rw [stepB_ok hs hR h]
        simp only
        cases hf : fitsAll p (mkRec o p L H H') rs with
        | false => rw [hf] at hr; cases hr
        | true => rw [hf] at hr; exact ih _ _ _ _ _ (hR.put o.dst v) hr
theorem out2_some {o : Option Out2} {k : Ex → RT → Heap → Option Out2} (hr : out2 o k = some o2) : ∃ x, o = some x ∧ k x.ex x.T x.H = some o2 := by
  cases o with
  | none => cases hr
  | some x => exact ⟨x, rfl, hr⟩
theorem take_nth (h : n < L.length) : L.take n ++ [nth L n] = L.take (n + 1) := by
  rw [nth_eq, List.take_add_one]
  simp [List.getD, h]
theorem listOf_eq (hR : Rl n T L) : ∀ (k : Nat) (a : List Value), k ≤ n → listOf n T k a = L.take k ++ a
  | 0, a, _ => by simp [listOf]
  | k + 1, a, h => by
    show listOf n T k ((g2 n k).g T :: a) = _
    rw [listOf_eq hR k _ (by omega), hR.2.2, ← take_nth (by rw [hR.1]; omega)]
    simp
theorem endRange_T {l : Nat} {e : Ex} {A : List Value} {H1 : Heap} (hr : endRange [] l H = some ⟨e, A, H1⟩) : endRange L l H = some ⟨e, L, H1⟩ := by
  have : endRange L l H = (endRange [] l H).map fun o => ⟨o.ex, L, o.H⟩ := by
    unfold endRange
    cases H.lps with
    | nil => rfl
    | cons x r =>
      simp only
      cases Nat.beq x.1 l && Nat.ble H.floor l with
      | false => rfl
      | true => cases getL r l with
        | some y => rfl
        | none => cases isMp x.2 with
          | true => rfl
          | false => cases x.2.st <;> rfl
  rw [this, hr]; rfl
theorem retO_some {o : Option Out2} {x : Out2} (h : o = some x) : retO o = some ⟨x.ex, [fstT x.T], x.H⟩ := by subst h; rfl
theorem range2_ok (hs : SL self me) (hR : Rl n T L) {g : Operand} {ps : List Tmp} {asg body : Code} (hr : (range2 n (evT2 n g) ps asg body).f self T H = some o2) : ∃ o, rangeA me ((evT g).g L) ps asg body L H = some o ∧ OR2 n o2 o := by
  have hr : (match callee1 ((evT2 n g).g T) [yieldV (Nat.succ H.next)] with
    | some t => match t with
      | .fn f args => out2 (self (.call f args (laid (listOf n T n []) ps asg body H))) fun _ _ H1 => nrm H1 fun H1 => endR2 T (Nat.succ H.next) H1
      | .yld _ _ => none
    | none => none) = some o2 := hr
  rw [evT2_ok hR, listOf_eq hR n [] (Nat.le_refl _), List.append_nil, List.take_of_length_le (Nat.le_of_eq hR.1)] at hr
  unfold rangeA
  split at hr
  case h_2 => cases hr
  case h_1 t ht =>
  split at hr
  case h_2 => cases hr
  case h_1 f args =>
  obtain ⟨x, h1, h2⟩ := out2_some hr
  rw [nrm_eq] at h2
  rw [ht]
  simp only
  rw [hs.call _ _ (show lift self (.call f args _) = _ from retO_some h1)]
  simp only
  unfold endR2 at h2
  split at h2
  case h_2 => cases h2
  case h_1 e A H1 he =>
  cases h2
  exact ⟨_, endRange_T he, rfl, hR, rfl⟩
theorem codeK_ok (hs : SL self me) (top : Bool) : ∀ (c : Code) (T : RT) (L : List Value) (H : Heap) (o2 : Out2), Rl n T L → (codeK P n top c).f self T H = some o2 → ∃ o, (codeC P top c).f me L H = some o ∧ OR2 n o2 o := by
  intro c
  induction c with
  | skip => intro T L H o2 hR hr; cases hr; exact ⟨_, rfl, rfl, hR, rfl⟩
  | region id ops d =>
    intro T L H o2 hR hr
    cases d with
    | false => exact opsK_ok hs ops.toList ops.toList T L H o2 hR hr
    | true =>
      have hr : (draw2 P n ops.toList).f self T H = some o2 := hr
      show ∃ o, drawA P me ops.toList L H = some o ∧ _
      unfold draw2 at hr
      unfold drawA
      split at hr
      · rename_i ha
        rw [ha]
        exact opsD2_ok hs ops.toList _ T L H [] o2 hR hr
      · cases hr
  | seq x y ix iy =>
    intro T L H o2 hR hr
    obtain ⟨z, h1, h2⟩ := out2_some (show out2 ((codeK P n top x).f self T H) (fun e T H => Ex.rec (motive := fun _ => Option Out2) ((codeK P n top y).f self T H) (fun i => some ⟨.exit i, T, H⟩) (some ⟨.ret, T, H⟩) e) = some o2 from hr)
    obtain ⟨o1, g1, g2⟩ := ix _ _ _ _ hR h1
    show ∃ o, thenA ((codeC P top x).f me L H) (fun T H => (codeC P top y).f me T H) = some o ∧ _
    rw [g1]
    obtain ⟨e, T1, H1⟩ := z
    obtain ⟨e', L1, H1'⟩ := o1
    obtain ⟨rfl, k1, rfl⟩ := g2
    cases e' with
    | normal => exact iy _ _ _ _ k1 h2
    | exit i => cases h2; exact ⟨_, rfl, rfl, k1, rfl⟩
    | ret => cases h2; exact ⟨_, rfl, rfl, k1, rfl⟩
  | cond c x y ix iy =>
    intro T L H o2 hR hr
    have hr : condV ((ev2 n c).g T) ((codeK P n top x).f self T H) ((codeK P n top y).f self T H) = some o2 := hr
    show ∃ o, ifA me ((evC c).g L) (codeC P top x) (codeC P top y) L H = some o ∧ _
    rw [ev2_ok hR] at hr
    unfold condV at hr
    split at hr
    case h_2 => cases hr
    case h_1 t ht =>
    rw [ht]
    cases t with
    | true => exact ix _ _ _ _ hR hr
    | false => exact iy _ _ _ _ hR hr
  | block id x ix =>
    intro T L H o2 hR hr
    obtain ⟨z, h1, h2⟩ := out2_some (show out2 ((codeK P n top x).f self T H) (fun e T H => Ex.rec (motive := fun _ => Option Out2) (some ⟨.normal, T, H⟩) (fun i => Bool.rec (motive := fun _ => Option Out2) (some ⟨.exit i, T, H⟩) (some ⟨.normal, T, H⟩) (Nat.beq i id)) (some ⟨.ret, T, H⟩) e) = some o2 from hr)
    obtain ⟨o1, g1, g2⟩ := ix _ _ _ _ hR h1
    show ∃ o, blockA id ((codeC P top x).f me L H) = some o ∧ _
    rw [g1]
    obtain ⟨e, T1, H1⟩ := z
    obtain ⟨e', L1, H1'⟩ := o1
    obtain ⟨rfl, k1, rfl⟩ := g2
    cases e' with
    | normal => cases h2; exact ⟨_, rfl, rfl, k1, rfl⟩
    | exit i =>
      simp only at h2
      unfold blockA
      simp only
      cases hb : Nat.beq i id with
      | true => rw [hb] at h2; cases h2; exact ⟨_, rfl, rfl, k1, rfl⟩
      | false => rw [hb] at h2; cases h2; exact ⟨_, rfl, rfl, k1, rfl⟩
    | ret => cases h2; exact ⟨_, rfl, rfl, k1, rfl⟩
  | loop x _ => intro T L H o2 hR hr; exact hs.loop n top x T L H o2 hr hR
  | rangeFunc g ps asg body _ _ =>
    intro T L H o2 hR hr
    cases top with
    | false => cases hr
    | true => exact range2_ok hs hR hr
  | exit id => intro T L H o2 hR hr; cases hr; exact ⟨_, rfl, rfl, hR, rfl⟩
  | label l => intro T L H o2 hR hr; cases hr; exact ⟨_, rfl, rfl, hR, rfl⟩
  | ret => intro T L H o2 hR hr; cases hr; exact ⟨_, rfl, rfl, hR, rfl⟩
  | _ => intros; rename_i hr; cases hr
theorem rsO2_ok (hR : Rl n T L) (r : ResultVar) : (rsO2 P n r).f T H = resultOne P L H r := by
  cases r with
  | tmp t => exact congrArg some (hR.2.2 t)
  | cell a t =>
    show (match (loadC P t).f ((g2 n a).g T) H with | some (v, _) => some v | none => none) = match (loadC P t).f (nth L a) H with | some (v, _) => some v | none => none
    rw [hR.2.2]
theorem rsL2_ok (hR : Rl n T L) : ∀ rs : List ResultVar, (rsL2 P n rs).f T H = resultsL P L H rs
  | [] => rfl
  | r :: rs => by
    show (match (rsO2 P n r).f T H with | some v => (match (rsL2 P n rs).f T H with | some vs => some (v :: vs) | none => none) | none => none) = _
    rw [rsO2_ok hR, rsL2_ok hR rs]; rfl
theorem res2_ok (hR : Rl n T L) (rs : List ResultVar) : (res2 P n rs).f T H = resultsA P rs L H := by
  unfold res2 resultsA
  split
  · exact rsO2_ok hR _
  · simp only [rsL2_ok hR]
    rfl
theorem Rl.zero (h : n ≤ 256) : Rl n rt0 (List.replicate n undef) := by
  refine ⟨List.length_replicate, h, fun i => ?_⟩
  have : nth (List.replicate n undef) i = undef := by rw [nth_eq]; grind
  rw [this]
  unfold g2
  split
  · show (sel16 _).g ((sel16 _).g (all16 (all16 undef))) = undef
    rw [sel_all, sel_all]
  · rfl
theorem putFrom_ok : ∀ (l : List Value) (A : List Value) (T : RT), Rl n T (A ++ List.replicate (n - A.length) undef) → A.length + l.length ≤ n → Rl n (putFrom n l A.length T) (A ++ l ++ List.replicate (n - (A ++ l).length) undef)
  | [], A, T, hR, _ => by rw [List.append_nil]; exact hR
  | v :: r, A, T, hR, h => by
    have h1 := hR.put (some A.length) v
    simp only [List.length_cons] at h
    have e : putT (A ++ List.replicate (n - A.length) undef) (some A.length) v = (A ++ [v]) ++ List.replicate (n - (A ++ [v]).length) undef := by
      show setN _ _ _ = _
      rw [setN_eq, show n - A.length = (n - (A ++ [v]).length) + 1 by simp; omega, List.replicate_succ]
      simp
    rw [e] at h1
    have := putFrom_ok r (A ++ [v]) _ h1 (by simp; omega)
    rw [List.append_assoc A [v] r, List.length_append] at this
    exact this
theorem args_ok {args : List Value} (h : args.length ≤ n) (hn : n ≤ 256) : Rl n (putFrom n args 0 rt0) (appN args (repl (n - lenN args) [undef])) := by
  have := putFrom_ok args [] rt0 (by simpa using Rl.zero hn) (by simpa using h)
  rw [appN_eq, lenN_eq, repl1_eq]
  simpa using this
theorem ble_of {a b : Nat} (h : Nat.ble a b = true) : a ≤ b := Nat.le_of_ble_eq_true h
structure RO (o2 : Out2) (o : Out) : Prop where
  ex : o.ex = o2.ex
  T : o.T = [fstT o2.T]
  H : o.H = o2.H
theorem RO.eq {o : Out} (h : RO o2 o) : o = ⟨o2.ex, [fstT o2.T], o2.H⟩ := by
  obtain ⟨e, T, H⟩ := o
  obtain ⟨h1, h2, h3⟩ := h
  simp_all
theorem endF_ok {fn : Func} {rs : List ResultVar} {o : Out} {x : Out2} (h : OR2 n x o) (hr : endF (res2 P n rs) x.ex x.T x.H = some o2) : ∃ o1, endA P rs (some o) = some o1 ∧ RO o2 o1 := by
  obtain ⟨e, T, H⟩ := x
  obtain ⟨e', L, H'⟩ := o
  obtain ⟨rfl, hR, rfl⟩ := h
  simp only at hr hR
  unfold endF at hr
  unfold endA
  cases e' with
  | exit i => cases hr
  | normal =>
    simp only [res2_ok hR] at hr ⊢
    cases h : resultsA P rs L H' with
    | none => rw [h] at hr; cases hr
    | some v => rw [h] at hr; cases hr; exact ⟨_, rfl, rfl, rfl, rfl⟩
  | ret =>
    simp only [res2_ok hR] at hr ⊢
    cases h : resultsA P rs L H' with
    | none => rw [h] at hr; cases hr
    | some v => rw [h] at hr; cases hr; exact ⟨_, rfl, rfl, rfl, rfl⟩
theorem end2_ok (hs : SL self me) {fn : Func} {c : Code} {m : Nat} {args : List Value} (hr : (end2 fn.ntmps m (res2 P fn.ntmps fn.results.toList) (codeK P fn.ntmps true c)).f self args H = some o2) :
    Nat.ble (lenN args) m = true ∧ ∃ o, endA P fn.results.toList ((codeC P true c).f me (appN args (repl (fn.ntmps - lenN args) [undef])) H) = some o ∧ RO o2 o := by
  unfold end2 at hr
  split at hr
  case h_2 => cases hr
  case h_1 h5 =>
  simp only at hr
  split at hr
  case h_2 => cases hr
  case h_1 hb =>
  rw [Bool.and_eq_true] at hb
  have hl := ble_of hb.1
  rw [lenN_eq] at hl
  obtain ⟨x, h1, h2⟩ := out2_some hr
  obtain ⟨o, g1, g2⟩ := codeK_ok hs true c _ _ _ _ (args_ok hl (ble_of h5)) h1
  rw [g1]
  exact ⟨hb.2, endF_ok (fn := fn) g2 h2⟩
theorem fnT_ok {tb : Tb} (hs : SL self me) {f : FuncId} {args : List Value} (hr : (fnT P tb f).f self args H = some o2) : ∃ o, @stepO (orcT tb) P me (.call f args H) = some o ∧ RO o2 o := by
  have fn : ∀ {o2}, (fnA P tb f).f self args H = some o2 → ∃ o, (match tb.bod f with | some c => fnW P f c me args H | none => step P me (.call f args H)) = some o ∧ RO o2 o := by
    intro o2 hr
    unfold fnA at hr
    split at hr
    · rename_i c hc
      try rw [hc]
      unfold fnB at hr
      split at hr
      case h_2 => cases hr
      case h_1 fn hf =>
      obtain ⟨h1, o, h2, h3⟩ := end2_ok hs hr
      refine ⟨o, ?_, h3⟩
      show fnW P f c me args H = some o
      unfold fnW
      rw [atN_eq] at hf
      rw [hf]
      simp only
      rw [h1]
      exact h2
    · rename_i hc
      try rw [hc]
      unfold fn2 at hr
      split at hr
      case h_2 => cases hr
      case h_1 fn hf =>
      split at hr
      case h_2 => cases hr
      case h_1 c hb =>
      obtain ⟨_, o, h2, h3⟩ := end2_ok hs hr
      refine ⟨o, ?_, h3⟩
      show (fnC P f).f me args H = some o
      unfold fnC
      rw [atN_eq] at hf
      rw [hf]
      simp only
      rw [hb]
      exact h2
  show ∃ o, (match (match tb.tab f with | some t => t.f args H | none => none) with | some v => some ⟨.ret, [v], H⟩ | none => match tb.bod f with | some c => fnW P f c me args H | none => step P me (.call f args H)) = some o ∧ _
  unfold fnT at hr
  split at hr
  · rename_i t ht
    try rw [ht]
    try simp only
    have hr : (match t.f args H with | some v => some ⟨.ret, retT v, H⟩ | none => (fnA P tb f).f self args H) = some o2 := hr
    cases hv : t.f args H with
    | some v => rw [hv] at hr; cases hr; exact ⟨_, rfl, rfl, rfl, rfl⟩
    | none => rw [hv] at hr; exact fn hr
  · rename_i ht
    try rw [ht]
    exact fn hr
theorem round2_ok (hs : SL self me) {l : Nat} {args : List Value} (hr : round2 P self l args H = some o2) : ∃ o, roundA P me l args H = some o ∧ RO o2 o := by
  unfold round2 at hr
  unfold roundA
  split at hr
  case h_2 => cases hr
  case h_1 r hl =>
  split at hr
  case h_2 => cases hr
  case h_1 hb =>
  rw [Bool.and_eq_true] at hb
  rw [hl]
  simp only
  rw [hb.1]
  simp only
  obtain ⟨x, h1, h2⟩ := out2_some hr
  have hn := ble_of hb.2
  have hlen : ∀ (ps : List Tmp) (T : List Value) (a : List Value), (putAll T ps a).length = T.length := by
    intro ps
    induction ps with
    | nil => intro T a; cases a <;> rfl
    | cons p ps ih => intro T a; cases a with
      | nil => rfl
      | cons v vs => show (putAll (setN T p v) ps vs).length = _; rw [ih, setN_eq, List.length_set]
  have hR : Rl (lenN r.T) (putFrom (lenN r.T) (putAll r.T r.ps args) 0 rt0) (putAll r.T r.ps args) := by
    have e := args_ok (n := lenN r.T) (args := putAll r.T r.ps args) (by rw [hlen, lenN_eq]; exact Nat.le_refl _) hn
    rw [appN_eq, lenN_eq, lenN_eq, hlen, Nat.sub_self] at e
    rw [lenN_eq]
    simpa [repl] using e
  obtain ⟨o1, g1, g2⟩ := codeK_ok hs false r.asg _ _ _ _ hR h1
  rw [g1]
  obtain ⟨e, T1, H1⟩ := x
  obtain ⟨e', L1, H1'⟩ := o1
  obtain ⟨rfl, k1, rfl⟩ := g2
  simp only at h2
  cases e' with
  | exit i => cases h2
  | ret => cases h2
  | normal =>
    simp only at h2
    show ∃ o, (match beginR l H1' with | some H2 => endR l ((codeC P false r.body).f me L1 H2) | none => none) = some o ∧ _
    cases hb2 : beginR l H1' with
    | none => rw [hb2] at h2; cases h2
    | some H2 =>
      rw [hb2] at h2
      simp only at h2 ⊢
      obtain ⟨y, h3, h4⟩ := out2_some h2
      obtain ⟨o3, g3, g4⟩ := codeK_ok hs false r.body _ _ _ _ k1 h3
      rw [g3]
      obtain ⟨e2, T2, H3⟩ := y
      obtain ⟨e2', L2, H3'⟩ := o3
      obtain ⟨rfl, k2, rfl⟩ := g4
      unfold endQ2 at h4
      simp only at h4
      unfold endR
      simp only
      cases hm : mark l (stOf e2') H3' with
      | none => rw [hm] at h4; cases h4
      | some H4 => rw [hm] at h4; cases h4; exact ⟨_, rfl, rfl, rfl, rfl⟩
theorem run2_ok (tb : Tb) : ∀ n, SL (run2 P tb n) (@runO (orcT tb) P n)
  | 0 => ⟨fun t o h => (by cases t <;> cases h), fun _ _ _ _ _ _ _ h => (by cases h)⟩
  | n + 1 => by
    have ih := run2_ok tb n
    refine ⟨fun t o h => ?_, fun m top c T L H o2 hr hR => ?_⟩
    · cases t with
      | loop top c T H => cases h
      | call f args H =>
        have h : retO ((fnT P tb f).f (run2 P tb n) args H) = some o := h
        cases hx : (fnT P tb f).f (run2 P tb n) args H with
        | none => rw [hx] at h; cases h
        | some x =>
          rw [hx] at h; cases h
          obtain ⟨o, h1, h2⟩ := fnT_ok ih hx
          rw [h2.eq] at h1
          exact h1
      | round l args H =>
        have h : retO (round2 P (run2 P tb n) l args H) = some o := h
        cases hx : round2 P (run2 P tb n) l args H with
        | none => rw [hx] at h; cases h
        | some x =>
          rw [hx] at h; cases h
          obtain ⟨o, h1, h2⟩ := round2_ok ih hx
          rw [h2.eq] at h1
          exact h1
    · obtain ⟨z, h1, h2⟩ := out2_some (show out2 ((codeK P m top c).f (run2 P tb n) T H) (fun e T H => Ex.rec (motive := fun _ => Option Out2) (run2 P tb n (.loop m top c T H)) (fun i => some ⟨.exit i, T, H⟩) (some ⟨.ret, T, H⟩) e) = some o2 from hr)
      obtain ⟨o1, g1, g2⟩ := codeK_ok ih top c _ _ _ _ hR h1
      show ∃ o, thenA ((codeC P top c).f (@runO (orcT tb) P n) L H) (fun T H => @runO (orcT tb) P n (.loop top c T H)) = some o ∧ _
      rw [g1]
      obtain ⟨e, T1, H1⟩ := z
      obtain ⟨e', L1, H1'⟩ := o1
      obtain ⟨rfl, k1, rfl⟩ := g2
      cases e' with
      | normal => exact ih.loop _ _ _ _ _ _ _ h2 k1
      | exit i => cases h2; exact ⟨_, rfl, rfl, k1, rfl⟩
      | ret => cases h2; exact ⟨_, rfl, rfl, k1, rfl⟩
theorem run2_true {tb : Tb} {k : Nat} {f : FuncId} (hr : isT2 (run2 P tb k (.call f [] H)) = true) : isTrueB (@runO (orcT tb) P k (.call f [] H)) = true := by
  unfold isT2 at hr
  split at hr
  case h_2 => cases hr
  case h_1 e T H' h =>
  rw [(run2_ok tb k).call _ _ (show lift _ (.call f [] H) = _ from retO_some h)]
  unfold isTrueB
  simp only
  split at hr
  · rename_i b hb
    rw [hb]
    exact hr
  · cases hr
theorem run2_val {tb : Tb} {k : Nat} {f : FuncId} {v : Value} (hr : outT (run2 P tb k (.call f [] H)) = some v) : outV (@runO (orcT tb) P k (.call f [] H)) = some v := by
  unfold outT at hr
  split at hr
  case h_2 => cases hr
  case h_1 e T H' h =>
  cases hr
  rw [(run2_ok tb k).call _ _ (show lift _ (.call f [] H) = _ from retO_some h)]
  rfl
theorem lookT_mem {α : Type} : ∀ {l : List (Nat × α)} {f : Nat} {x : α}, lookT l f = some x → (f, x) ∈ l
  | [], _, _, h => by cases h
  | (g, y) :: r, f, x, h => by
    unfold lookT at h
    split at h
    · rename_i hb
      cases h
      obtain rfl := Nat.eq_of_beq_eq_true hb
      exact .head _
    · exact .tail _ (lookT_mem h)
theorem orcT_ok {W : World} {L : List (Nat × TF)} {M : List (Nat × Code)} (h1 : ∀ p ∈ L, ∀ args H v, p.2.f args H = some v → @OrcGood (baseOf W) P p.1 args H v) (h2 : ∀ q ∈ M, @BodGood (baseOf W) (orcT ⟨lookT L, lookT M⟩) P q.1 q.2) : @OrcOk (baseOf W) (orcT ⟨lookT L, lookT M⟩) P := by
  refine @OrcOk.mk (baseOf W) (orcT ⟨lookT L, lookT M⟩) P ?_ ?_
  · intro f args H v h
    have h : (match lookT L f with | some t => t.f args H | none => none) = some v := h
    cases ht : lookT L f with
    | none => rw [ht] at h; cases h
    | some t => rw [ht] at h; exact h1 _ (lookT_mem ht) args H v h
  · intro f c h
    exact h2 _ (lookT_mem h)
end
end Go.Ab
namespace Go.Ab
open Go
set_option linter.unusedVariables false
set_option linter.unusedSectionVars false
noncomputable def byteI (v : Value) : Option Int := match v with
  | .int k n => match k with
    | .u8 => match leB 0 n && leB n 255 with
      | true => some n
      | false => none
    | _ => none
  | _ => none
noncomputable def bytesI (l : List Value) : Option (List Int) := match l with
  | [] => some []
  | v :: r => match byteI v with
    | some n => match bytesI r with
      | some t => some (n :: t)
      | none => none
    | none => none
noncomputable def readB (H : Heap) (v : Value) : Option (List Int) := match v with
  | .slice a n c => match a with
    | none => match Nat.beq n 0 && Nat.beq c 0 with
      | true => some []
      | false => none
    | some ⟨id, off, sp⟩ => match sp with
      | some _ => none
      | none => match Nat.beq c 2 || Nat.beq c 3 with
        | true => match readCells H id off n with
          | some l => bytesI l
          | none => none
        | false => none
  | _ => none
theorem byteI_some {v : Value} {n : Int} (h : byteI v = some n) : v = .int .u8 n ∧ 0 ≤ n ∧ n ≤ 255 := by
  unfold byteI at h
  split at h
  case h_2 => cases h
  case h_1 k m =>
  split at h
  case h_2 => cases h
  case h_1 =>
  split at h
  case h_2 => cases h
  case h_1 hb =>
  cases h
  rw [Bool.and_eq_true, leB_eq, leB_eq] at hb
  exact ⟨rfl, of_decide_eq_true hb.1, of_decide_eq_true hb.2⟩
theorem bytesI_some : ∀ {l : List Value} {xs : List Int}, bytesI l = some xs → l = by8 xs ∧ ∀ x ∈ xs, 0 ≤ x ∧ x ≤ 255
  | [], xs, h => by cases h; exact ⟨rfl, fun _ h => by cases h⟩
  | v :: r, xs, h => by
    unfold bytesI at h
    split at h
    case h_2 => cases h
    case h_1 n hn =>
    split at h
    case h_2 => cases h
    case h_1 t ht =>
    cases h
    obtain ⟨rfl, h1, h2⟩ := byteI_some hn
    obtain ⟨rfl, h3⟩ := bytesI_some ht
    exact ⟨rfl, fun x hx => by
      rcases List.mem_cons.1 hx with rfl | hx
      · exact ⟨h1, h2⟩
      · exact h3 x hx⟩
theorem readB_some {H : Heap} {v : Value} {xs : List Int} (h : readB H v = some xs) : (∀ x ∈ xs, 0 ≤ x ∧ x ≤ 255) ∧ ((v = nilSl ∧ xs = []) ∨ ∃ id off c b, v = sl id off xs.length c ∧ (c = 2 ∨ c = 3) ∧ H.get id = some b ∧ (b.cells.drop off).take xs.length = by8 xs ∧ off + xs.length ≤ off + (b.cells.drop off).length) := by
  unfold readB at h
  split at h
  case h_2 => cases h
  case h_1 a n c =>
  split at h
  case h_1 =>
    split at h
    case h_2 => cases h
    case h_1 hb =>
    cases h
    rw [Bool.and_eq_true] at hb
    obtain rfl := Nat.eq_of_beq_eq_true hb.1
    obtain rfl := Nat.eq_of_beq_eq_true hb.2
    exact ⟨fun _ h => (by cases h), .inl ⟨rfl, rfl⟩⟩
  case h_2 id off sp =>
    split at h
    case h_1 => cases h
    case h_2 =>
    split at h
    case h_2 => cases h
    case h_1 hc =>
    split at h
    case h_2 => cases h
    case h_1 l hl =>
    obtain ⟨rfl, hb⟩ := bytesI_some h
    refine ⟨hb, .inr ?_⟩
    unfold readCells at hl
    split at hl
    case h_2 => cases hl
    case h_1 b hg =>
    rw [sliceO_eq] at hl
    split at hl
    case isFalse => cases hl
    case isTrue hlen =>
    have e : (b.cells.drop off).take n = by8 xs := Option.some.inj hl
    have hn : n = xs.length := by rw [e] at hlen; simpa using hlen.symm
    subst hn
    refine ⟨id, off, c, b, rfl, ?_, hg, e, ?_⟩
    · rw [Bool.or_eq_true] at hc
      exact hc.imp Nat.eq_of_beq_eq_true Nat.eq_of_beq_eq_true
    · have := congrArg List.length e
      simp at this ⊢
      omega
section
variable {P : Program} [Base] [Orc]
noncomputable def laidB (G : Nat) (xs : List Int) : Heap := lay (start G) [by8 xs]
theorem VRs.split {σ : Loc} : ∀ {xs ys l : List Value}, VRs σ (xs ++ ys) l → ∃ l1 l2, l = l1 ++ l2 ∧ VRs σ xs l1 ∧ VRs σ ys l2
  | [], ys, l, h => ⟨[], l, rfl, .nil, h⟩
  | x :: xs, ys, l, h => by
    obtain ⟨y, r, rfl, h1, h2⟩ := h.uncons
    obtain ⟨l1, l2, rfl, h3, h4⟩ := VRs.split h2
    exact ⟨y :: l1, l2, rfl, h1.cons h3, h4⟩
theorem by8_VRs {σ τ : Loc} {xs : List Int} {l : List Value} (h : VRs σ (by8 xs) l) : VRs τ (by8 xs) l := by
  have e : l = by8 xs := h.flat1 (by simp [flat1])
  rw [e]
  exact VRs.map_int .u8 (fun x => x) xs
theorem orc_bytes (hP : goodB P = true) (ho : OrcOk P) {f : FuncId} {pre : List Value} (hpre : pre.all flat2 = true) {x : Value} {xs : List Int} {H : Heap} (hr : readB H x = some xs) {v : Value} (hv : flat3 v = true)
    (hw : ∀ (x' : Value), RdB [(P.globals.size, ⟨by8 xs, false⟩)] x' xs → ∃ n ex H', runO P n (.call f (pre ++ [x']) (laidB P.globals.size xs)) = some ⟨ex, [v], H'⟩) : OrcGood P f (pre ++ [x]) H v := by
  intro B σ h w args' k hva
  obtain ⟨l1, l2, he, hv1, hv2⟩ := hva.split
  have hv1' := (hv1.flat2 hpre).symm
  subst hv1'
  obtain ⟨y, r, rfl, hy, hnil⟩ := hv2.uncons
  obtain rfl := hnil.nil_inv
  obtain ⟨hb, hx⟩ := readB_some hr
  have hl := lay_ok [by8 xs] (start P.globals.size)
  have key : ∀ (x' : Value) (loc : Option (Nat × Nat × Nat)), RdB [(P.globals.size, ⟨by8 xs, false⟩)] x' xs →
      (let σ' : Loc := fun id => if id < P.globals.size then some (id, 0, 0) else if id = P.globals.size then loc else none
       VR σ' x' y ∧ (xs ≠ [] → BR σ' w P.globals.size ⟨by8 xs, false⟩)) → (∃ fn c, P.funcs[f]? = some fn ∧ fn.body = some c) ∧ CallsIn (Wd none) 0 P f args' w (fun e w' => ∃ v', e = .returned v' ∧ VR σ v v' ∧ RowKit.Below w.heap.size w w') := by
    intro x' loc hx' ⟨hvr, hbr⟩
    obtain ⟨n, ex, H', hrun⟩ := hw x' hx'
    let σ' : Loc := fun id => if id < P.globals.size then some (id, 0, 0) else if id = P.globals.size then loc else none
    have hget : ∀ id o, (laidB P.globals.size xs).getO id = some o → id = P.globals.size ∧ xs ≠ [] ∧ o = .cells ⟨by8 xs, false⟩ := by
      intro id o hid
      unfold Heap.getO at hid
      rw [show (laidB P.globals.size xs).lps = (start P.globals.size).lps from hl.lps] at hid
      cases hg : (laidB P.globals.size xs).get id with
      | none => rw [hg] at hid; cases hid
      | some z =>
        rw [hg] at hid
        cases hid
        rcases hl.out id z hg with h | ⟨j, c, e1, e2, e3⟩
        · rw [start_get] at h; cases h
        · obtain ⟨rfl, rfl⟩ : j = 0 ∧ by8 xs = c := by
            cases j with
            | zero => simp at e2; exact ⟨rfl, e2⟩
            | succ j => simp at e2
          refine ⟨e1, ?_, ?_⟩
          · rintro rfl; cases e3
          · cases xs with
            | nil => cases e3
            | cons a t => cases e3; rfl
    have kn : Known P B σ' (laidB P.globals.size xs).getO (laidB P.globals.size xs) w := by
      refine ⟨⟨fun id b hb => ?_, fun id b hb hw => ?_, fun i j bi bj _ hi _ hw => ?_⟩, fun id b hb => hb, k.hB, fun g hg => ⟨0, if_pos hg⟩, ⟨fun i hi => ?_, fun i hi => ?_⟩, ?_, k.base, k.lo⟩
      · obtain ⟨rfl, hne, rfl⟩ := hget id b hb
        exact hbr hne
      · obtain ⟨_, _, rfl⟩ := hget id b hb; cases hw
      · obtain ⟨_, _, rfl⟩ := hget i bi hi; cases hw
      · cases ho : (laidB P.globals.size xs).getO i with
        | none => exact absurd ho hi
        | some o =>
          obtain ⟨rfl, _⟩ := hget i o ho
          rw [show (laidB P.globals.size xs).next = (start P.globals.size).next + 1 from hl.next]
          exact Nat.lt_succ_self _
      · rw [show (laidB P.globals.size xs).lps = (start P.globals.size).lps from hl.lps] at hi; exact absurd rfl hi
      · rw [show (laidB P.globals.size xs).floor = (start P.globals.size).floor from hl.floor]; exact Nat.zero_le _
    have hfr : Fresh σ' (laidB P.globals.size xs).next H'.next := by
      intro i h1 _
      rw [show (laidB P.globals.size xs).next = (start P.globals.size).next + 1 from hl.next] at h1
      have h1 : P.globals.size + 1 ≤ i := h1
      show (if i < P.globals.size then _ else if i = P.globals.size then _ else _) = _
      rw [if_neg (by omega), if_neg (by omega)]
    have hargs : VRs σ' (pre ++ [x']) args'.toList := by
      rw [he]
      exact (flat2_VRs hpre).append hvr
    obtain ⟨h1, h2⟩ := (runO_ok (good_of hP) ho n).call f _ _ ex v H' hrun B σ' _ w args' kn hfr hargs
    refine ⟨h1, CallsIn.mono h2 ?_⟩
    rintro e w' ⟨v', τ, h', rfl, hv', hs⟩
    rw [hv'.flat3 hv]
    refine ⟨_, rfl, flat3_VR hv, hs.goes.os, hs.goes.tape, hs.goes.output, hs.goes.size, fun c hc => hs.goes.keep c hc ?_⟩
    rintro ⟨id, b, _, _, hb, hw, _⟩
    obtain ⟨_, _, rfl⟩ := hget id b hb
    cases hw
  rcases hx with ⟨rfl, rfl⟩ | ⟨id, off, c, b, rfl, hc, hg, hcells, hle⟩
  · refine key nilSl none (.inl ⟨rfl, rfl⟩) ⟨?_, fun h => absurd rfl h⟩
    cases hy
    exact .slNil .nil
  · have hblk := k.sim.blk id _ (k.sub id (.cells b) (by unfold Heap.getO; rw [hg]))
    obtain ⟨c0, o, s, arr, ty, fr, q1, q2, q3, q4, q5, q6⟩ := hblk
    refine key (sl P.globals.size 0 xs.length c) (some (c0, o + off, s)) (.inr ⟨_, 0, c, rfl, hc, .inr ⟨0, _, rfl, List.take_of_length_le (by simp)⟩⟩) ⟨?_, fun hne => ?_⟩
    · have hσ : (fun id => if id < P.globals.size then some (id, 0, 0) else if id = P.globals.size then some (c0, o + off, s) else none : Loc) P.globals.size = some (c0, o + off, s) := by simp
      cases hy with
      | slFull _ _ _ size c1 o1 s1 a e1 e2 e3 _ =>
        rw [q1] at e1; cases e1
        obtain rfl : size = 1 := by omega
        exact .slFull P.globals.size 0 xs.length 1 c0 (o + off) s a hσ e2 (by simpa using e3) .nil
      | slOpen _ _ _ size cap c1 o1 s1 a e1 e2 e3 e4 _ =>
        rw [q1] at e1; cases e1
        obtain rfl : size = 1 := by omega
        exact .slOpen P.globals.size 0 xs.length 1 cap c0 (o + off) s a hσ e2 e3 (by simpa using e4) .nil
    · have hlen : xs.length ≤ b.cells.length - off := by
        have := congrArg List.length hcells
        simp at this
        omega
      have hpos : 0 < xs.length := List.length_pos_iff.2 hne
      refine ⟨c0, o + off, s, arr, ty, fr, by simp, q2, q3, by simp; omega, ?_, fun h => by cases h⟩
      have h1 := (q5.drop off).take xs.length
      rw [hcells] at h1
      have e : (((arr.toList.drop o).take b.cells.length).drop off).take xs.length = (arr.toList.drop (o + off)).take xs.length := by
        rw [List.drop_take, List.drop_drop, List.take_take, Nat.min_eq_left hlen]
      rw [e] at h1
      have := by8_VRs (τ := fun id => if id < P.globals.size then some (id, 0, 0) else if id = P.globals.size then some (c0, o + off, s) else none) h1
      simpa using this
end
end Go.Ab
