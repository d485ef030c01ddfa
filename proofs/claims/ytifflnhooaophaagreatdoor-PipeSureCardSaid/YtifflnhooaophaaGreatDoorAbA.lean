/- texts of the nF, e5 behind the l0 -/
import Derived.Calls
import Derived.WalkKit
import Derived.ChangeKeysEq
set_option linter.unusedVariables false
set_option linter.unusedSimpArgs false
set_option linter.unusedSectionVars false
open List Nat
namespace Go.Ab
open Go
noncomputable section
inductive Tr (α:Type) where
 | nil
 | kO (l:Tr α) (v:Option α) (r:Tr α)
namespace Tr
variable{α:Type}
def get(t:Tr α):Nat->Option α:=
 Tr.rec (motive:=fun _=>Nat->Option α) (fun _=>Option.none)
  (fun _ v _ Ck Cl n=>Nat.rec (motive:=fun _=>Option α) v (fun k _=>cond (Nat.beq (Nat.mod k 2) 0) (Ck (Nat.div k 2)) (Cl (Nat.div k 2))) n) t
def set(t:Tr α):Nat->Option α->Tr α:=
 Tr.rec (motive:=fun _=>Nat->Option α->Tr α) (fun n v=>Nat.rec (motive:=fun _=>Tr α) (.kO .nil v .nil) (fun _ _=>.nil) n)
  (fun l x r Ck Cl n v=>Nat.rec (motive:=fun _=>Tr α) (.kO l v r) (fun k _=>cond (Nat.beq (Nat.mod k 2) 0) (.kO (Ck (Nat.div k 2) v) x r) (.kO l x (Cl (Nat.div k 2) v))) n) t
end Tr
def p1{α:Type}(l:List α):Nat->List α:=
 List.rec (motive:=fun _=>Nat->List α) (fun _=>[]) (fun x _ a7 n=>Nat.rec (motive:=fun _=>List α) [] (fun k _=>x::a7 k) n) l
def qD{α:Type}(l:List α):Nat->List α:=
 List.rec (motive:=fun _=>Nat->List α) (fun _=>[]) (fun x r a7 n=>Nat.rec (motive:=fun _=>List α) (x::r) (fun k _=>a7 k) n) l
def hP{α:Type}(l m:List α):List α:=List.rec (motive:=fun _=>List α) m (fun x _ a7=>x::a7) l
def fG{α:Type}(l:List α):Nat:=List.rec (motive:=fun _=>Nat->Nat) (fun n=>n) (fun _ _ a7 n=>a7 (Nat.succ n)) l 0
def nY{α:Type}(l:List α):Nat->Option α:=
 List.rec (motive:=fun _=>Nat->Option α) (fun _=>none) (fun x _ a7 n=>Nat.rec (motive:=fun _=>Option α) (some x) (fun k _=>a7 k) n) l
def jM{α:Type}(p:α->Bool)(l:List α):Bool:=List.rec (motive:=fun _=>Bool) true (fun x _ a7=>cond (p x) a7 false) l
def j7(a b:Int):Bool:=Int.rec (motive:=fun _=>Bool) (fun m=>Int.rec (motive:=fun _=>Bool) (fun n=>Nat.ble m n) (fun _=>false) b) (fun m=>Int.rec (motive:=fun _=>Bool) (fun _=>true) (fun n=>Nat.ble n m) b) a
def oN(a b:Int):Bool:=Int.rec (motive:=fun _=>Bool) (fun m=>Int.rec (motive:=fun _=>Bool) (fun n=>Nat.beq m n) (fun _=>false) b) (fun m=>Int.rec (motive:=fun _=>Bool) (fun _=>false) (fun n=>Nat.beq n m) b) a
def b4(l:List Value):Nat->Value:=
 List.rec (motive:=fun _=>Nat->Value) (fun _=>undef) (fun x _ a7 n=>Nat.rec (motive:=fun _=>Value) x (fun k _=>a7 k) n) l
def gJ(l:List Value):Nat->Value->List Value:=
 List.rec (motive:=fun _=>Nat->Value->List Value) (fun _ _=>[]) (fun x r a7 n v=>Nat.rec (motive:=fun _=>List Value) (v::r) (fun k _=>x::a7 k v) n) l
def tD{α:Type}(p:α->α->Bool)(l:List α):List α->Bool:=
 List.rec (motive:=fun _=>List α->Bool) (fun m=>List.rec (motive:=fun _=>Bool) true (fun _ _ _=>false) m)
  (fun x _ a7 m=>List.rec (motive:=fun _=>Bool) false (fun y r _=>cond (p x y) (a7 r) false) m) l
def Ag(x:Value)(o:Option (List Value)):Option (List Value):=match o with
 | some l=>some (x::l)
 | none=>none
def Mc(n:Nat):List Value->List Value:=
 Nat.rec (motive:=fun _=>List Value->List Value) (fun l=>l) (fun _ a7 l=>List.rec (motive:=fun _=>List Value) [] (fun _ r _=>a7 r) l) n
def Md(n:Nat):List Value->Option (List Value):=
 Nat.rec (motive:=fun _=>List Value->Option (List Value)) (fun _=>some []) (fun _ a7 l=>List.rec (motive:=fun _=>Option (List Value)) none (fun x r _=>Ag x (a7 r)) l) n
def Me(l:List Value)(o n:Nat):Option (List Value):=Md n (Mc o l)
def EO(vs:List Value):List Value->Option (List Value):=
 List.rec (motive:=fun _=>List Value->Option (List Value)) (fun l=>some l) (fun v _ a7 l=>List.rec (motive:=fun _=>Option (List Value)) none (fun _ r _=>Ag v (a7 r)) l) vs
def TA(k:List Value->Option (List Value))(n:Nat):List Value->Option (List Value):=
 Nat.rec (motive:=fun _=>List Value->Option (List Value)) k (fun _ a7 l=>List.rec (motive:=fun _=>Option (List Value)) none (fun x r _=>Ag x (a7 r)) l) n
def Mf(l:List Value)(o:Nat)(vs:List Value):Option (List Value):=TA (EO vs) o l
def tE:IntKind->IntKind->Bool
 | .i64,.i64=>true|.u64,.u64=>true|.u8,.u8=>true|.u32,.u32=>true
 | .i8,.i8=>true|.i16,.i16=>true|.i32,.i32=>true|.u16,.u16=>true
 | _,_=>false
structure ay where
 cells:List Value
 wr:Bool
inductive mJ where
 | normal|exit (id:Nat)|ret
inductive uP where
 | ready|busy|over (e:mJ)
structure ha where
 T:List Value
 bJ:List Tmp
 cS:Code
 body:Code
 st:uP
def mK(l:ha):Bool:=match l.st with
 | .over e=>match e with|.normal=>true|_=>false
 | _=>false
def jN(T:List Value):ha:=⟨T,[],.skip,.skip,.over .normal⟩
def eD(l:List (Nat×ha))(i:Nat):Option ha:=List.rec (motive:=fun _=>Option ha) none (fun x _ a7=>cond (Nat.beq x.1 i) (some x.2) a7) l
def lv(l:List (Nat×ha))(i:Nat)(v:ha):List (Nat×ha):=List.rec (motive:=fun _=>List (Nat×ha)) [] (fun x r a7=>cond (Nat.beq x.1 i) ((i,v)::r) (x::a7)) l
structure ar where
 t:Tr ay
 next:Nat
 dB:Nat
 dI:List (Nat×ha)
def ar.get(H:ar)(i:Nat):Option ay:=H.t.get i
def ar.set(H:ar)(i:Nat)(b:Option ay):ar:={H with t:=H.t.set i b}
def ar.nZ(H:ar)(i:Nat)(b:ay):Bool:=b.wr&&Nat.ble H.dB i
def ar.cL(H:ar)(ao:List Value):Option (Nat×ar):=
 some (H.next,⟨H.t.set H.next (some ⟨ao,true⟩),Nat.succ H.next,H.dB,H.dI⟩)
def eA:Value->Bool
 | .agg _=>false
 | .tuple _=>false
 | _=>true
def Cm:Value->Bool
 | .bool _=>true
 | .int _ _=>true
 | .string _=>true
 | .pointer a=>match a with|none=>true|some _=>false
 | .slice a n c=>match a with|none=>Nat.beq n 0&&Nat.beq c 0|some _=>false
 | .map r=>match r with|none=>true|some _=>false
 | .nilFunc=>true
 | .nilIface=>true
 | .func fn first cap=>match fn with|.func _=>Nat.beq (fG first.toList) 0&&Nat.beq (fG cap.toList) 0|_=>false
 | _=>false
def Cn:Value->Bool
 | .agg ao=>jM Cm ao.toList
 | .tuple vs=>Nat.beq (fG vs.toList) 0
 | v=>Cm v
def cZ(v:Value):List Value:=match v with|.agg ao=>ao.toList|v=>[v]
section
variable(P:Program)
def p2(t:TypeId):Option Bool:=match P.underlying t with|some (.struct _)=>some true|some (.array _ _)=>some true|some _=>some false|none=>none
def gD(t:TypeId):Option Nat:=(P.info? t).map (·.size)
def hX(t:TypeId):Option Value:=match P.info? t with
 | some i=>match i.zero with
  | some z=>cond (Cn z) (some z) none
  | none=>none
 | none=>none
def xb(l:List Value)(n:Nat):Option (List Value):=match Nat.beq (fG l) n with|true=>some l|false=>none
def r5(H:ar)(id off n:Nat):Option (List Value):=
 match H.get id with
 | some b=>Me b.cells off n
 | none=>none
def uQ(H:ar)(id off:Nat)(vs:List Value):Option ar:=
 match H.get id with
 | some b=>
  match H.nZ id b&&jM eA vs with
  | true=>match Mf b.cells off vs with
   | some ao=>some (H.set id (some ⟨ao,b.wr⟩))
   | none=>none
  | false=>none
 | none=>none
def uR(fH:Nat->Option (Nat×Nat)):List Value->List (Nat×Value)->Option (List Value)
 | cells,[]=>some cells
 | cells,(i,v)::dO=>
  match fH i with
  | none=>none
  | some (off,size)=>
   let ao:=cZ v
   match Nat.beq (fG ao) size&&Nat.ble (off+fG ao) (fG cells)with|true=>uR fH (hP (p1 cells off) (hP ao (qD cells (off+fG ao)))) dO|false=>none
def HG(mL:List Field)(i:Nat):Option (Nat×Nat):=match nY mL i with
 | some f=>match gD P f.type with
  | some n=>some (f.offset,n)
  | none=>none
 | none=>none
def TB(l:Option (List Value)):Option Value:=match l with
 | some l=>some (.agg l.toArray)
 | none=>none
structure Mg where f:List (Nat×Value)->Option Value
def c9(t:TypeId):Mg:=
 match hX P t with
 | some z=>match P.underlying t with
  | some (.struct mL)=>match jM (fun f=>(gD P f.type).isSome) mL.toList with
   | true=>⟨fun hy=>TB (uR (HG P mL.toList) (cZ z) hy)⟩
   | false=>⟨fun _=>none⟩
  | some (.array _ e)=>match gD P e with
   | some size=>⟨fun hy=>TB (uR (fun i=>some (i*size,size)) (cZ z) hy)⟩
   | none=>⟨fun _=>none⟩
  | _=>⟨fun _=>none⟩
 | none=>⟨fun _=>none⟩
def fR:Nat->List Value->List Value
 | 0,_=>[]
 | n+1,l=>hP l (fR n l)
def sY(t:TypeId)(ao:List Value)(off:Nat):Option Value:=
 match p2 P t,gD P t with
 | some true,some n=>some (.agg (p1 (qD ao off) n).toArray)
 | some false,some _=>nY ao off
 | _,_=>none
def eqFields(sZ:TypeId->Value->Value->Option Bool)(ak aX:List Value):List Field->Option Bool
 | []=>some true
 | f::bj=>
  if f.name== "_" then none else
  match sY P f.type ak f.offset,sY P f.type aX f.offset with
  | some a,some b=>match sZ f.type a b with
   | some true=>eqFields sZ ak aX bj
   | r=>r
  | _,_=>none
def Co(sZ:Value->Value->Option Bool)(e:TypeId)(n:Nat)(ak aX:List Value):Nat->Nat->Option Bool
 | 0,_=>some true
 | k+1,i=>
  match sY P e ak (i*n),sY P e aX (i*n)with
  | some a,some b=>match sZ a b with
   | some true=>Co sZ e n ak aX k (i+1)
   | r=>r
  | _,_=>none
def nG:Nat->TypeId->Value->Value->Option Bool
 | 0,_,_,_=>none
 | d+1,t,x,y=>
  match P.underlying t,x,y with
  | some .bool,.bool a,.bool b=>some (a==b)
  | some (.int _),.int k a,.int eE b=>(match tE k eE with|true=>some (oN a b)|false=>none)
  | some .string,.string a,.string b=>some (a.data.toList==b.data.toList)
  | some (.pointer _),.pointer none,.pointer b=>some b.isNone
  | some (.pointer _),.pointer (some _),.pointer none=>some false
  | some (.interface _),.nilIface,.nilIface=>some true
  | some (.interface _),.nilIface,.iface _ _=>some false
  | some (.interface _),.iface _ _,.nilIface=>some false
  | some (.slice _),.slice none _ _,.slice b _ _=>some b.isNone
  | some (.slice _),.slice (some _) _ _,.slice none _ _=>some false
  | some (.func _ _ _),.nilFunc,.nilFunc=>some true
  | some (.func _ _ _),.nilFunc,.func _ _ _=>some false
  | some (.func _ _ _),.func _ _ _,.nilFunc=>some false
  | some (.struct mL),.agg ak,.agg aX=>if P.stoodInHeld t then none else eqFields P (nG d) ak.toList aX.toList mL.toList
  | some (.array len e),.agg ak,.agg aX=>match gD P e with
   | some n=>Co P (nG d e) e n ak.toList aX.toList len 0
   | none=>none
  | _,_,_=>none
def tF(oO hY:Nat)(n:Int):Int:=
 match n with
 | .ofNat m=>match Nat.blt m oO with
  | true=>.ofNat m
  | false=>cond (Nat.blt (m%hY) oO) (.ofNat (m%hY)) (.negSucc (hY-1-m%hY))
 | .negSucc m=>match Nat.blt m oO with
  | true=>.negSucc m
  | false=>cond (Nat.blt (m%hY) oO) (.negSucc (m%hY)) (.ofNat (hY-1-m%hY))
def r6(hY:Nat)(n:Int):Int:=
 match n with
 | .ofNat m=>.ofNat (m%hY)
 | .negSucc m=>.ofNat (hY-1-m%hY)
def iJ(k:IntKind)(n:Int):Int:=
 match k with
 | .i64=>tF 9223372036854775808 18446744073709551616 n
 | .u64=>r6 18446744073709551616 n
 | .u8=>r6 256 n
 | .u32=>r6 4294967296 n
 | .u16=>r6 65536 n
 | .i32=>tF 2147483648 4294967296 n
 | .i8=>tF 128 256 n
 | .i16=>tF 32768 65536 n
def n0(k:IntKind)(n:Int):Nat:=
 match k with
 | .i64=>(r6 18446744073709551616 n).toNat
 | .u64=>(r6 18446744073709551616 n).toNat
 | .u8=>(r6 256 n).toNat
 | .u32=>(r6 4294967296 n).toNat
 | .u16=>(r6 65536 n).toNat
 | .i32=>(r6 4294967296 n).toNat
 | .i8=>(r6 256 n).toNat
 | .i16=>(r6 65536 n).toNat
def HH(op:BinOp):IntKind->Int->Int->Option Value:=
 match op with
 | .add=>fun k a b=>some (.int k (iJ k (a+b)))
 | .sub=>fun k a b=>some (.int k (iJ k (a-b)))
 | .mul=>fun k a b=>some (.int k (iJ k (a*b)))
 | .quo=>fun k a b=>match oN b 0 with|true=>none|false=>some (.int k (iJ k (a.tdiv b)))
 | .rem=>fun k a b=>match oN b 0 with|true=>none|false=>some (.int k (a.tmod b))
 | .and=>fun k a b=>some (.int k (iJ k (Nat.land (n0 k a) (n0 k b))))
 | .or=>fun k a b=>some (.int k (iJ k (Nat.lor (n0 k a) (n0 k b))))
 | .xor=>fun k a b=>some (.int k (iJ k (Nat.xor (n0 k a) (n0 k b))))
 | .eql=>fun _ a b=>some (.bool (oN a b))
 | .neq=>fun _ a b=>some (.bool (not (oN a b)))
 | .lss=>fun _ a b=>some (.bool (not (j7 b a)))
 | .leq=>fun _ a b=>some (.bool (j7 a b))
 | .gtr=>fun _ a b=>some (.bool (not (j7 a b)))
 | .geq=>fun _ a b=>some (.bool (j7 b a))
 | _=>fun _ _ _=>none
def EP(op:BinOp):List UInt8->List UInt8->Option Value:=
 match op with
 | .add=>fun l r=>if Nat.ble (fG l+fG r) 9223372036854775807 then some (.string ⟨(hP l r).toArray⟩)else none
 | .eql=>fun l r=>some (.bool (l==r))
 | .neq=>fun l r=>some (.bool !(l==r))
 | .lss=>fun l r=>some (.bool (Op.bytesLess l r))
 | .leq=>fun l r=>some (.bool (Op.bytesLess l r||l==r))
 | .gtr=>fun l r=>some (.bool !(Op.bytesLess l r||l==r))
 | .geq=>fun l r=>some (.bool !(Op.bytesLess l r))
 | _=>fun _ _=>none
def uS:Operand->Bool
 | .const _=>true
 | _=>false
def uT(t:TypeId)(c:Bool):Value->Value->Bool
 | .nilIface,.nilIface=>c
 | .agg _,.agg _=>!P.eqGuardType P.depth t
 | _,_=>true
def Mh(op:BinOp)(t:TypeId)(c:Bool):Value->Value->Option Value:=
 match op with
 | .eql=>fun a b=>if uT P t c a b then(nG P 100 t a b).map .bool else none
 | .neq=>fun a b=>if uT P t c a b then(nG P 100 t a b).map fun r=>.bool !r else none
 | _=>fun _ _=>none
def Ah(left:Bool)(k:IntKind)(a:Int)(b:Int):Option Value:=
 if b<0 then none else
 if left then some (.int k (iJ k (a*((2^(min b.toNat k.bits):Nat):Int))))else some (.int k (a.fdiv ((2^(min b.toNat k.bits):Nat):Int)))
def Cp:BinOp->Option Bool
 | .shl=>some true
 | .shr=>some false
 | _=>none
structure ER where f:Value->Value->Option Value
def au(op:BinOp)(t:TypeId)(c:Bool):ER:=
 match Cp op with
 | some l=>⟨fun a b=>match a with
  | .int k a=>match b with|.int _ b=>Ah l k a b|_=>none
  | _=>none⟩
 | none=>⟨fun a b=>match a with
  | .int k a=>match b with|.int eE b=>(match tE k eE with|true=>HH op k a b|false=>none)|_=>none
  | .string a=>match b with|.string b=>EP op a.data.toList b.data.toList|_=>none
  | .float _ _=>none
  | .complex _ _ _=>none
  | a=>Mh P op t c a b⟩
def hQ(op:UnOp)(x:Value):Option Value:=
 match x with
 | .int k n=>match op with
  | .neg=>some (.int k (iJ k (0-n)))
  | .xor=>some (.int k (iJ k (Nat.xor (n0 k (if k.signed then-1 else k.max)) (n0 k n))))
  | _=>none
 | .bool b=>match op with
  | .not=>some (.bool !b)
  | _=>none
 | _=>none
def uU:List Value->Option (List UInt8)
 | []=>some []
 | v::r=>match v with
  | .int k n=>match k with
   | .u8=>(uU r).map (UInt8.ofNat n.toNat::·)
   | _=>none
  | _=>none
def vS(b:UInt8):Value:=.int .u8 b.toNat
abbrev R:=Option (Value×ar)
def fT(H:ar):Option Value->R
 | some v=>some (v,H)
 | none=>none
def xc(ao:List Value)(H:ar):R:=match H.cL ao with
 | some (id,H)=>some (.pointer (some ⟨id,0,none⟩),H)
 | none=>none
def lO(ao:List Value)(len c:Nat)(H:ar):R:=match H.cL ao with
 | some (id,H)=>some (.slice (some ⟨id,0,none⟩) len c,H)
 | none=>none
structure Mi where f:List (Nat×Value)->ar->R
def HI(size len:Nat)(z:List Value)(hy:List (Nat×Value))(H:ar):R:=
 match uR (fun i=>some (i*size,size)) (fR len z) hy with
 | some ao=>lO ao len (2*size+1) H
 | none=>none
def eg(t:TypeId)(len:Nat):Mi:=
 match P.underlying t with
 | some (.slice e)=>match gD P e with
  | some size=>match hX P e with
   | some z=>match Nat.ble (len*size) 16777216&&(Nat.blt 0 size&&Nat.beq (fG (cZ z)) size)with
    | true=>⟨HI size len (cZ z)⟩
    | false=>⟨fun _ _=>none⟩
   | none=>⟨fun _ _=>none⟩
  | none=>⟨fun _ _=>none⟩
 | _=>⟨fun _ _=>none⟩
structure Ai where f:Value->ar->R
def Aj(x:Value)(H:ar):R:=match x with
 | .string s=>lO (s.data.toList.map vS) (fG s.data.toList) 2 H
 | _=>none
def n1(x:Value)(H:ar):R:=match x with
 | .slice a len _=>match a with
  | none=>some (.string ⟨#[]⟩,H)
  | some ⟨id,off,ct⟩=>match ct with
   | some _=>none
   | none=>if Nat.beq len 0 then some (.string ⟨#[]⟩,H)else match r5 H id off len with
    | some l=>match uU l with
     | some l=>some (.string ⟨l.toArray⟩,H)
     | none=>none
    | none=>none
 | _=>none
def vT(x:Value)(H:ar):R:=match x with
 | .slice a len _=>match a with
  | none=>none
  | some ⟨id,_,ct⟩=>match ct with
   | some _=>none
   | none=>match Nat.beq len 0 with
    | true=>none
    | false=>match H.get id with
     | some b=>match H.nZ id b with
      | true=>some (x,H)
      | false=>none
     | none=>none
 | _=>none
def Cq(e:TypeId):Bool:=match P.underlying e with
 | some (.int .u8)=>true
 | _=>false
def Ak(tG dst:TypeId):Ai:=
 match P.underlying dst with
 | some (.int k)=>match P.underlying tG with
  | some (.int _)=>⟨fun x H=>match x with|.int _ n=>some (.int k (iJ k n),H)|_=>none⟩
  | _=>⟨fun _ _=>none⟩
 | some .string=>match P.underlying tG with
  | some .string=>⟨fun x H=>match x with|.string s=>some (.string s,H)|_=>none⟩
  | some (.slice e)=>if Cq P e then⟨n1⟩else⟨fun _ _=>none⟩
  | _=>⟨fun _ _=>none⟩
 | some (.slice e)=>match P.underlying tG with
  | some .string=>if Cq P e then⟨Aj⟩else⟨fun _ _=>none⟩
  | some (.slice _)=>if Cq P e&&Nat.beq tG dst then⟨vT⟩else⟨fun _ _=>none⟩
  | _=>⟨fun _ _=>none⟩
 | _=>⟨fun _ _=>none⟩
def r7(H:ar)(size n:Nat)(x:Value):Option (List Value):=
 match x with
 | .slice a _ _=>match a with
  | none=>some []
  | some ⟨id,off,ct⟩=>match ct with
   | some _=>none
   | none=>if Nat.beq n 0 then some []else r5 H id off (n*size)
 | .string s=>match Nat.beq size 1 with|true=>some ((p1 s.data.toList n).map vS)|false=>none
 | _=>none
def mM:Value->Option Nat
 | .slice _ n _=>some n
 | .string s=>some (fG s.data.toList)
 | _=>none
def xd(n bytes:Nat):Bool:=Nat.ble ((2*n)*bytes) 281474976710656&&Nat.ble n 9223372036854775807
def yH(size:Nat)(id off len:Nat)(cL:List Value)(n:Nat)(H:ar):R:=
 match (if Nat.beq len 0 then some []else r5 H id off (len*size))with
 | some old=>lO (hP old cL) (len+n) (2*size) H
 | none=>none
def Am(size:Nat)(id off len:Nat)(cL:List Value)(n:Nat)(H:ar):R:=
 match H.get id with
 | some b=>match H.nZ id b&&(Nat.ble (off+len*size) (fG b.cells)&&jM eA cL)with|true=>lO (hP (qD (p1 b.cells (off+len*size)) off) cL) (len+n) (2*size) (H.set id none)|false=>none
 | none=>none
def qE(size bytes:Nat)(s:Value)(cL:List Value)(n:Nat)(H:ar):R:=
 match s with
 | .slice a len c=>match a with
  | none=>if Nat.beq n 0 then some (.slice none 0 0,H)else if xd n bytes then lO cL n (2*size) H else none
  | some ⟨id,off,ct⟩=>match ct with
   | some _=>none
   | none=>if Nat.beq n 0 then some (s,H)else
    if xd (len+n) bytes then
     if Nat.beq c (2*size+1)then yH size id off len cL n H
     else if Nat.beq c (2*size)then Am size id off len cL n H else none
    else none
 | _=>none
def fu(size bytes:Nat)(s x:Value)(H:ar):R:=
 match mM x with
 | some n=>match r7 H size n x with
  | some cL=>qE size bytes s cL n H
  | none=>none
 | none=>none
def TC(size:Nat)(x:Value)(H:ar):R:=match x with
 | .slice a n c=>match a with
  | none=>match Nat.beq n 0&&Nat.beq c 0 with
   | true=>some (.int .i64 0,H)
   | false=>none
  | some _=>match Nat.beq c (2*size+1)with
   | true=>some (.int .i64 n,H)
   | false=>none
 | _=>none
def HJ(t:TypeId):Ai:=
 match P.underlying t with
 | some (.slice e)=>match gD P e with
  | some size=>⟨TC size⟩
  | none=>⟨fun _ _=>none⟩
 | _=>⟨fun _ _=>none⟩
structure An where f:List Value->ar->R
def lP(g:Value->Value->ar->R):List Value->ar->R
 | [a,b],H=>g a b H
 | _,_=>none
def e5(g:Value->ar->R):List Value->ar->R
 | [a],H=>g a H
 | _,_=>none
def Ao(t:TypeId):Bool:=match P.underlying t with
 | some (.slice _)=>true
 | some .string=>true
 | _=>false
def Cr(argTypes:List TypeId):An:=
 match argTypes with
 | [kh,ki]=>match P.underlying kh with
  | some (.slice e)=>match P.info? e with
   | some i=>match hX P e with
    | some z=>match (Nat.blt 0 i.size&&Nat.beq (fG (cZ z)) i.size)&&Ao P ki with
     | true=>⟨lP (fu i.size i.bytes)⟩
     | false=>⟨fun _ _=>none⟩
    | none=>⟨fun _ _=>none⟩
   | none=>⟨fun _ _=>none⟩
  | _=>⟨fun _ _=>none⟩
 | _=>⟨fun _ _=>none⟩
def HK(size bytes:Nat)(z:List Value)(s x:Value)(H:ar):R:=
 match s with
 | .slice a len c=>match a with
  | some _=>none
  | none=>match x with
   | .int k n=>match k with
    | .i64=>match j7 0 n&&(Nat.beq len 0&&Nat.beq c 0)with
     | true=>match Nat.beq n.toNat 0 with
      | true=>some (.slice none 0 0,H)
      | false=>match xd n.toNat bytes with
       | true=>lO (fR n.toNat z) n.toNat (2*size) H
       | false=>none
     | false=>none
    | _=>none
   | _=>none
 | _=>none
def Cs(kh:TypeId):An:=
 match P.underlying kh with
 | some (.slice e)=>match P.info? e with
  | some i=>match hX P e with
   | some z=>match Nat.blt 0 i.size&&Nat.beq (fG (cZ z)) i.size with
    | true=>⟨lP (HK i.size i.bytes (cZ z))⟩
    | false=>⟨fun _ _=>none⟩
   | none=>⟨fun _ _=>none⟩
  | none=>⟨fun _ _=>none⟩
 | _=>⟨fun _ _=>none⟩
def Ct(t:TypeId):Bool:=match P.underlying t with
 | some (.int _)=>true
 | _=>false
def HL(argTypes:List TypeId):An:=
 match argTypes with
 | [kh,ki]=>match Ct P ki with
  | true=>Cs P kh
  | false=>Cr P argTypes
 | _=>⟨fun _ _=>none⟩
def qF(size:Nat)(d x:Value)(H:ar):R:=
 match d with
 | .slice base ahl _=>match mM x with
  | some aC=>
   let n:=Nat.min aC ahl
   if Nat.beq n 0 then some (.int .i64 0,H)else
   match base with
   | some ⟨id,off,ct⟩=>match ct with
    | some _=>none
    | none=>match r7 H size n x with
     | some cL=>match uQ H id off cL with
      | some H=>some (.int .i64 n,H)
      | none=>none
     | none=>none
   | none=>none
  | none=>none
 | _=>none
def yI(argTypes:List TypeId):An:=
 match argTypes with
 | r8::_=>match P.underlying r8 with
  | some (.slice e)=>match gD P e with
   | some size=>if Nat.blt 0 size then⟨lP (qF size)⟩else⟨fun _ _=>none⟩
   | none=>⟨fun _ _=>none⟩
  | _=>⟨fun _ _=>none⟩
 | _=>⟨fun _ _=>none⟩
def HM:Int->List Value->IntKind->Option Value
 | v,[],k=>some (.int k v)
 | v,x::r,k=>match x with
  | .int _ y=>HM (cond (j7 v y) v y) r k
  | _=>none
def HN:Int->List Value->IntKind->Option Value
 | v,[],k=>some (.int k v)
 | v,x::r,k=>match x with
  | .int _ y=>HN (cond (j7 y v) v y) r k
  | _=>none
def pn:List Value->Option Value
 | v::r=>match v with|.int k x=>HM x r k|_=>none
 | []=>none
def po:List Value->Option Value
 | v::r=>match v with|.int k x=>HN x r k|_=>none
 | []=>none
def ES(t:TypeId):Ai:=
 match P.underlying t with
 | some .string=>⟨fun x H=>match x with|.string s=>some (.int .i64 (Int.ofNat (fG s.data.toList)),H)|_=>none⟩
 | some (.array n _)=>⟨fun _ H=>some (.int .i64 n,H)⟩
 | some (.slice _)=>⟨fun x H=>match x with|.slice _ n _=>some (.int .i64 n,H)|_=>none⟩
 | _=>⟨fun _ _=>none⟩
def yJ(z:List Value)(x:Value)(H:ar):R:=
 match x with
 | .slice a n _=>if Nat.beq n 0 then some (.tuple #[],H)else match a with
  | none=>some (.tuple #[],H)
  | some ⟨id,off,ct⟩=>match ct with
   | some _=>none
   | none=>match uQ H id off (fR n z)with
    | some H=>some (.tuple #[],H)
    | none=>none
 | _=>none
def ET(t:TypeId):Ai:=
 match P.underlying t with
 | some (.slice e)=>match hX P e with
  | some z=>⟨yJ (cZ z)⟩
  | none=>⟨fun _ _=>none⟩
 | _=>⟨fun _ _=>none⟩
def tH(b:Builtin)(argTypes:List TypeId):An:=
 match b with
 | .append=>HL P argTypes
 | .copy=>yI P argTypes
 | .len=>match argTypes with|t::_=>⟨e5 (ES P t).f⟩|_=>⟨fun _ _=>none⟩
 | .cap=>match argTypes with|t::_=>⟨e5 (HJ P t).f⟩|_=>⟨fun _ _=>none⟩
 | .min=>⟨fun l H=>fT H (pn l)⟩
 | .max=>⟨fun l H=>fT H (po l)⟩
 | .clear=>match argTypes with|t::_=>⟨e5 (ET P t).f⟩|_=>⟨fun _ _=>none⟩
 | _=>⟨fun _ _=>none⟩
def n2(len:Nat):Option Value->Option Nat
 | none=>some len
 | some v=>match v with
  | .int _ n=>match j7 0 n with|true=>(match Nat.ble n.toNat len with|true=>some n.toNat|false=>none)|false=>none
  | _=>none
def qG(h:Nat):Option Value->Option Nat
 | none=>some 0
 | some v=>match v with
  | .int _ n=>match j7 0 n with|true=>(match Nat.ble n.toNat h with|true=>some n.toNat|false=>none)|false=>none
  | _=>none
structure ahm where f:Value->Option Value->Option Value->Option Value->ar->Option Value
def yK(x:Value)(fc aq gK:Option Value):Option Value:=match x with
 | .string s=>match gK with
  | some _=>none
  | none=>match n2 (fG s.data.toList) aq with
   | some h=>match qG h fc with
    | some l=>some (.string ⟨(p1 (qD s.data.toList l) (h-l)).toArray⟩)
    | none=>none
   | none=>none
 | _=>none
def r9(h:Nat)(aq gK:Option Value):Option Bool:=match gK with
 | none=>some false
 | some v=>match v with
  | .int _ m=>match aq with
   | some _=>match j7 0 m with
    | true=>(match Nat.beq m.toNat h with|true=>some true|false=>none)
    | false=>none
   | none=>none
  | _=>none
def ru(size:Nat)(a:Option Addr)(l h:Nat)(nH:Bool):Option Value:=match a with
 | none=>some (.slice none 0 0)
 | some ⟨id,off,ct⟩=>match ct with
  | some _=>none
  | none=>some (.slice (some ⟨id,off+l*size,none⟩) (h-l) (cond nH (2*size+1) (2*size)))
def gL(size:Nat)(x:Value)(fc aq gK:Option Value):Option Value:=match x with
 | .slice a len c=>match n2 len aq with
  | some h=>match qG h fc with
   | some l=>match r9 h aq gK with
    | some nH=>match Nat.beq c (2*size+1)with
     | true=>ru size a l h (nH||Nat.beq h len)
     | false=>match Nat.beq c (2*size)||Nat.beq c 0 with
      | true=>ru size a l h nH
      | false=>none
    | none=>none
   | none=>none
  | none=>none
 | _=>none
def l1(n size:Nat)(x:Value)(fc aq gK:Option Value)(H:ar):Option Value:=match x with
 | .pointer a=>match a with
  | none=>none
  | some ⟨id,off,ct⟩=>match H.get id with
   | none=>none
   | some b=>match Nat.ble (off+n*size) (fG b.cells)with
    | false=>none
    | true=>match n2 n aq with
     | some h=>match qG h fc with
      | some l=>match r9 h aq gK with
       | some nH=>ru size (some ⟨id,off,ct⟩) l h (nH||Nat.beq h n)
       | none=>none
      | none=>none
     | none=>none
 | _=>none
def HO(t:TypeId):ahm:=
 match P.underlying t with
 | some .string=>⟨fun x fc aq gK _=>yK x fc aq gK⟩
 | some (.slice e)=>match gD P e with
  | some size=>match Nat.blt 0 size with
   | true=>⟨fun x fc aq gK _=>gL size x fc aq gK⟩
   | false=>⟨fun _ _ _ _ _=>none⟩
  | none=>⟨fun _ _ _ _ _=>none⟩
 | some (.array n e)=>match gD P e with
  | some size=>match Nat.blt 0 size with
   | true=>⟨l1 n size⟩
   | false=>⟨fun _ _ _ _ _=>none⟩
  | none=>⟨fun _ _ _ _ _=>none⟩
 | _=>⟨fun _ _ _ _ _=>none⟩
def tI(size bytes:Nat)(z:List Value)(l c:Value)(H:ar):R:=match l with
 | .int _ l=>match c with
  | .int _ c=>
   if 0<=l then(if l<=c then(if Nat.ble (c.toNat*bytes) 281474976710656&&Nat.ble c.toNat 9223372036854775807 then
    lO (fR l.toNat z) l.toNat (cond (oN l c) (2*size+1) (2*size)) H else none)else none)else none
  | _=>none
 | _=>none
structure Mj where f:Value->Value->ar->R
def qH(t:TypeId):Mj:=
 match P.underlying t with
 | some (.slice e)=>match gD P e,hX P e,(P.info? e).map (·.bytes)with
  | some size,some z,some bytes=>if Nat.blt 0 size&&Nat.beq (fG (cZ z)) size then⟨tI size bytes (cZ z)⟩else⟨fun _ _ _=>none⟩
  | _,_,_=>⟨fun _ _ _=>none⟩
 | _=>⟨fun _ _ _=>none⟩
def bF(o:Nat)(x:Value):Option Value:=match x with
 | .pointer a=>match a with
  | some ⟨id,off,ct⟩=>match ct with
   | none=>some (.pointer (some ⟨id,off+o,none⟩))
   | some _=>none
  | none=>none
 | _=>none
structure HP where f:Value->Option Value
def yL(s:TypeId)(f:Nat):HP:=
 match P.underlying s with
 | some (.struct mL)=>match mL.toList[f]? with
  | some ck=>match gD P ck.type with
   | some 0=>⟨fun _=>none⟩
   | some _=>⟨bF ck.offset⟩
   | none=>⟨fun _=>none⟩
  | none=>⟨fun _=>none⟩
 | _=>⟨fun _=>none⟩
def eO(n size:Nat)(x i:Value):Option Value:=match i with
 | .int _ i=>match j7 0 i with|true=>(match Nat.blt i.toNat n with|true=>bF (i.toNat*size) x|false=>none)|false=>none
 | _=>none
def gd(size:Nat)(x i:Value):Option Value:=match x with
 | .slice a n _=>eO n size (.pointer a) i
 | _=>none
def HQ(t:TypeId):ER:=
 match P.underlying t with
 | some (.array n e)=>match gD P e with
  | some size=>⟨eO n size⟩
  | none=>⟨fun _ _=>none⟩
 | some (.slice e)=>match gD P e with
  | some size=>⟨gd size⟩
  | none=>⟨fun _ _=>none⟩
 | _=>⟨fun _ _=>none⟩
structure ahn where f:List Value->Nat->Option Value
def Cu(t:TypeId):ahn:=
 match p2 P t,gD P t with
 | some true,some n=>⟨fun ao off=>some (.agg (p1 (qD ao off) n).toArray)⟩
 | some false,some _=>⟨fun ao off=>nY ao off⟩
 | _,_=>⟨fun _ _=>none⟩
def HR(n size:Nat)(p:List Value->Nat->Option Value)(x i:Value):Option Value:=match x with
 | .agg ao=>match i with
  | .int _ i=>match j7 0 i with|true=>(match Nat.blt i.toNat n with|true=>p ao.toList (i.toNat*size)|false=>none)|false=>none
  | _=>none
 | _=>none
def EU(x i:Value):Option Value:=match x with
 | .string s=>match i with
  | .int _ i=>match j7 0 i with|true=>(nY s.data.toList i.toNat).map vS|false=>none
  | _=>none
 | _=>none
def HS(t:TypeId):ER:=
 match P.underlying t with
 | some (.array n e)=>match gD P e with
  | some size=>⟨HR n size (Cu P e).f⟩
  | none=>⟨fun _ _=>none⟩
 | some .string=>⟨EU⟩
 | _=>⟨fun _ _=>none⟩
def HT(t:TypeId)(f:Nat):HP:=
 match P.underlying t with
 | some (.struct mL)=>match mL.toList[f]? with
  | some ck=>⟨fun x=>match x with|.agg ao=>(Cu P ck.type).f ao.toList ck.offset|_=>none⟩
  | none=>⟨fun _=>none⟩
 | _=>⟨fun _=>none⟩
def mi(yM:TypeId)(z:Option Value)(x:Value):Option Value:=
 match x with
 | .iface t v=>if Nat.beq t yM then some (.tuple #[v,.bool true])else z.map fun z=>.tuple #[z,.bool false]
 | .nilIface=>z.map fun z=>.tuple #[z,.bool false]
 | _=>none
def yN(yM:TypeId)(x:Value):Option Value:=
 match x with
 | .iface t v=>if Nat.beq t yM then some v else none
 | _=>none
def Ap(yM:TypeId)(ok:Bool):HP:=
 match P.underlying yM with
 | some (.interface _)=>⟨fun _=>none⟩
 | some _=>if ok then⟨mi yM (hX P yM)⟩else⟨yN yM⟩
 | none=>⟨fun _=>none⟩
structure TD where g:List Value->Value
def dT:Operand->TD
 | .tmp t=>⟨fun T=>b4 T t⟩
 | .const v=>⟨fun _=>v⟩
 | .global g=>⟨fun _=>.pointer (some ⟨g,0,none⟩)⟩
 | .func f=>⟨fun _=>.func (.func f) #[] #[]⟩
def Cv:Operand->TD
 | .tmp t=>⟨fun T=>b4 T t⟩
 | _=>⟨fun _=>undef⟩
def j8(l:List Operand)(T:List Value):List Value:=match l with
 | []=>[]
 | o::r=>(dT o).g T::j8 r T
def tJ(l:List (Nat×Operand))(T:List Value):List (Nat×Value):=match l with
 | []=>[]
 |(i,o)::r=>(i,(dT o).g T)::tJ r T
def Aq(o:Option Operand)(T:List Value):Option Value:=match o with
 | none=>none
 | some o=>some ((dT o).g T)
def bT(n:Nat)(a:Value)(H:ar):R:=match a with
 | .pointer a=>match a with
  | some ⟨id,off,ct⟩=>match ct with
   | none=>match r5 H id off n with
    | some l=>some (.agg l.toArray,H)
    | none=>none
   | some _=>none
  | none=>none
 | _=>none
def Ar(H:ar)(id off:Nat):Option Value:=match H.get id with
 | some b=>nY b.cells off
 | none=>none
def ax(a:Value)(H:ar):R:=match a with
 | .pointer a=>match a with
  | some ⟨id,off,ct⟩=>match ct with
   | none=>fT H (Ar H id off)
   | some _=>none
  | none=>none
 | _=>none
def nI(t:TypeId):Ai:=match p2 P t,gD P t with
 | some true,some n=>⟨bT n⟩
 | some false,some _=>⟨ax⟩
 | _,_=>⟨fun _ _=>none⟩
def bm(n:Nat)(a v:Value)(H:ar):R:=match a with
 | .pointer a=>match a with
  | some ⟨id,off,ct⟩=>match ct with
   | none=>if Nat.beq (fG (cZ v)) n then(match uQ H id off (cZ v)with
    | some H=>some (undef,H)
    | none=>none)else none
   | some _=>none
  | none=>none
 | _=>none
def rv(x:Value):Option Value:=match x with
 | .pointer a=>match a with|some _=>some x|none=>none
 | .iface _ _=>some x
 | .func fn _ _=>match fn with|.func _=>some x|_=>none
 | _=>none
structure TE where f:List Value->ar->R
def jc(op:Op):TE:=
 match op with
 | .move x=>⟨fun T H=>some ((dT x).g T,H)⟩
 | .assign x=>⟨fun T H=>some ((dT x).g T,H)⟩
 | .pick c a b=>⟨fun T H=>match (dT c).g T with|.bool t=>(match t with|true=>some ((dT a).g T,H)|false=>some ((dT b).g T,H))|_=>none⟩
 | .alloc t=>match hX P t with
  | some z=>⟨fun _ H=>xc (cZ z) H⟩
  | none=>⟨fun _ _=>none⟩
 | .box _ x=>⟨fun T H=>xc (cZ ((dT x).g T)) H⟩
 | .build t hy=>⟨fun T H=>fT H ((c9 P t).f (tJ hy.toList T))⟩
 | .buildSlice t len hy=>⟨fun T H=>(eg P t len).f (tJ hy.toList T) H⟩
 | .load t a=>⟨fun T H=>(nI P t).f ((dT a).g T) H⟩
 | .store t a x=>match gD P t with
  | some n=>⟨fun T H=>bm n ((dT a).g T) ((dT x).g T) H⟩
  | none=>⟨fun _ _=>none⟩
 | .nilCheck x=>⟨fun T H=>fT H (rv ((dT x).g T))⟩
 | .binOp op t x y _=>⟨fun T H=>fT H ((au P op t (uS x||uS y)).f ((dT x).g T) ((dT y).g T))⟩
 | .unOp op _ x=>⟨fun T H=>fT H (hQ op ((dT x).g T))⟩
 | .convert s d x=>⟨fun T H=>(Ak P s d).f ((dT x).g T) H⟩
 | .makeInterface t x=>match P.underlying t with
  | some (.interface _)=>⟨fun _ _=>none⟩
  | some _=>⟨fun T H=>some (.iface t ((dT x).g T),H)⟩
  | none=>⟨fun _ _=>none⟩
 | .makeFunc fn first cap=>match fn with
  | .func f=>⟨fun T H=>some (.func (.func f) (j8 first.toList T).toArray (j8 cap.toList T).toArray,H)⟩
  | _=>⟨fun _ _=>none⟩
 | .makeSlice t l c=>⟨fun T H=>(qH P t).f ((dT l).g T) ((dT c).g T) H⟩
 | .slice t x fc aq gK=>⟨fun T H=>fT H ((HO P t).f ((dT x).g T) (Aq fc T) (Aq aq T) (Aq gK T) H)⟩
 | .fieldAddr s x f=>⟨fun T H=>fT H ((yL P s f).f ((dT x).g T))⟩
 | .field t x f=>⟨fun T H=>fT H ((HT P t f).f ((dT x).g T))⟩
 | .indexAddr t x i=>⟨fun T H=>fT H ((HQ P t).f ((dT x).g T) ((dT i).g T))⟩
 | .index t x i=>⟨fun T H=>fT H ((HS P t).f ((dT x).g T) ((dT i).g T))⟩
 | .typeAssert x _ a ok=>⟨fun T H=>fT H ((Ap P a ok).f ((dT x).g T))⟩
 | .extract x i=>⟨fun T H=>match (dT x).g T with|.tuple vs=>fT H (nY vs.toList i)|_=>none⟩
 | .call c=>match c.callee with
  | .builtin b=>⟨fun T H=>(tH P b c.argTypes.toList).f (j8 c.args.toList T) H⟩
  | _=>⟨fun _ _=>none⟩
 | _=>⟨fun _ _=>none⟩
def sa(H:ar):ar:=⟨H.t.set H.next none,Nat.succ H.next,H.dB,(H.next,jN [])::H.dI⟩
def As(t:TypeId):Option (Bool×TypeId):=match P.underlying t with
 | some (.map k e)=>match P.underlying k with
  | some .string=>some (true,e)
  | some (.int _)=>some (false,e)
  | _=>none
 | _=>none
def Cw(bl:Bool)(a b:Value):Option Bool:=match bl with
 | true=>match a with
  | .string s=>match b with|.string t=>some (s==t)|_=>none
  | _=>none
 | false=>match a with
  | .int k m=>match b with|.int eE n=>(match tE k eE with|true=>some (oN m n)|false=>none)|_=>none
  | _=>none
def vU(bl:Bool)(key:Value):List Value->Option (Option Value)
 | []=>some none
 | [_]=>none
 | k::v::r=>match Cw bl key k with
  | some true=>some (some v)
  | some false=>vU bl key r
  | none=>none
def Cx(m:Value)(H:ar):Option (List Value):=match m with
 | .map r=>match r with
  | none=>some []
  | some id=>match eD H.dI id with
   | some r=>match mK r with|true=>some r.T|false=>none
   | none=>none
 | _=>none
def Cy(ok:Bool)(v:Value)(b:Bool):Value:=match ok with
 | true=>.tuple #[v,.bool b]
 | false=>v
def vV(t:TypeId)(ok:Bool)(m key:Value)(H:ar):R:=match As P t with
 | some (bl,e)=>match hX P e with
  | some z=>match Cx m H with
   | some T=>match vU bl key T with
    | some (some v)=>some (Cy ok v true,H)
    | some none=>some (Cy ok z false,H)
    | none=>none
   | none=>none
  | none=>none
 | none=>none
def tK(t:TypeId)(m key v:Value)(H:ar):R:=match As P t with
 | some (bl,_)=>match m with
  | .map r=>match r with
   | some id=>match Nat.ble H.dB id with
    | true=>match Cx m H with
     | some T=>match vU bl key T with
      | some none=>some (undef,⟨H.t,H.next,H.dB,lv H.dI id (jN (hP T [key,v]))⟩)
      | _=>none
     | none=>none
    | false=>none
   | none=>none
  | _=>none
 | none=>none
inductive At where
 | loop (c6:Bool) (c:Code) (T:List Value) (H:ar)
 | call (f:FuncId) (args:List Value) (H:ar)
 | round (l:Nat) (args:List Value) (H:ar)
structure dY where
 cJ:mJ
 T:List Value
 H:ar
abbrev hz:=At->Option dY
inductive vW where
 | fn (f:FuncId) (args:List Value)
 | ry (l:Nat) (args:List Value)
def tL(f:Value)(args:List Value):Option vW:=match f with
 | .func fn first cap=>match fn with
  | .func g=>some (.fn g (hP first.toList (hP args cap.toList)))
  | .yield l=>match Nat.beq (fG first.toList) 0&&Nat.beq (fG cap.toList) 0 with
   | true=>some (.ry l args)
   | false=>none
  | _=>none
 | _=>none
def Mk(t:TypeId)(name:String):Option (FuncId×Bool):=
 match P.info? t with
 | some i=>match i.methods.toList.find? (fun m=>m.name==name)with
  | some m=>match m.path.toList with
   | []=>m.func
   | _=>none
  | none=>none
 | none=>none
def Ml(t:TypeId):Option Bool:=match P.underlying t with
 | some (.pointer _)=>some true
 | some _=>some false
 | none=>none
def Mm(name:String)(r:Value)(args:List Value):Option vW:=match r with
 | .iface t v=>match Mk P t name with
  | some (f,ai)=>match Ml P t with
   | some b=>if b==ai then some (.fn f (v::args))else none
   | none=>none
  | none=>none
 | _=>none
def HU(H:ar):vW->At
 | .fn f args=>.call f args H
 | .ry l args=>.round l args H
def tM(self:hz)(x:Option vW)(H:ar):R:=
 match x with
 | some t=>match self (HU H t)with
  | some ⟨_,T,H⟩=>match T with
   | [v]=>some (v,H)
   | _=>none
  | none=>none
 | none=>none
structure TF where f:hz->List Value->ar->R
def uV:Operand->Bool
 | .tmp _=>true
 | .const v=>Cn v
 | .global g=>Nat.blt g P.globals.size
 | .func _=>true
def xe(op:Op):TF:=
 match op with
 | .call c=>match c.callee with
  | .builtin _=>⟨fun _ T H=>(jc P op).f T H⟩
  | .value f=>⟨fun self T H=>tM self (tL ((dT f).g T) (j8 c.args.toList T)) H⟩
  | .invoke r name=>⟨fun self T H=>tM self (Mm P name ((dT r).g T) (j8 c.args.toList T)) H⟩
 | .makeMap _ r=>match r with
  | none=>⟨fun _ _ H=>some (.map (some H.next),sa H)⟩
  | some _=>⟨fun _ _ _=>none⟩
 | .lookup t x i ok=>⟨fun _ T H=>vV P t ok ((dT x).g T) ((dT i).g T) H⟩
 | .mapUpdate t m k x=>⟨fun _ T H=>tK P t ((dT m).g T) ((dT k).g T) ((dT x).g T) H⟩
 | .insert t m k x=>⟨fun _ T H=>tK P t ((dT m).g T) ((dT k).g T) ((dT x).g T) H⟩
 | op=>⟨fun _ T H=>(jc P op).f T H⟩
def iK(op:Op):TF:=match jM (uV P) op.operands.toList with
 | true=>xe P op
 | false=>⟨fun _ _ _=>none⟩
def hZ(T:List Value)(d:Option Tmp)(v:Value):List Value:=match d with
 | some d=>gJ T d v
 | none=>T
structure aho where f:List Value->Bool
def ia(all:List Oper)(g:Option (Nat×Bool)):aho:=
 match g with
 | none=>⟨fun _=>true⟩
 | some (j,cN)=>match (all[j]?).bind (·.dst)with
  | some d=>⟨fun T=>match b4 T d with|.bool b=>b==cN|_=>false⟩
  | none=>⟨fun _=>false⟩
def iu(op:Op):Nat:=
 match op with
 | .load _ _=>1
 | .slice t _ _ _ _=>match P.underlying t with|some (.array _ _)=>1|_=>0
 | .convert s d _=>match P.underlying d with
  | some (.slice _)=>match P.underlying s with|some (.slice _)=>1|_=>2
  | some .string=>match P.underlying s with|some (.slice _)=>1|_=>0
  | _=>0
 | .alloc _=>2
 | .box _ _=>2
 | .buildSlice _ _ _=>2
 | .makeSlice _ _ _=>2
 | .store _ _ _=>4
 | .makeMap _ _=>3
 | .lookup _ _ _ _=>3
 | .mapUpdate _ _ _ _=>3
 | .insert _ _ _ _=>3
 | .call c=>match c.callee with
  | .builtin b=>match b with
   | .append=>4
   | .copy=>4
   | .clear=>4
   | _=>0
  | _=>3
 | _=>0
def HV(ms:List Nat)(o:Oper):Nat:=
 o.after.toList.foldl (fun s e=>match Region.binds .any e with
  | true=>Nat.lor s (Nat.lor (Nat.shiftLeft 1 e.on) (match nY ms e.on with|some m=>m|none=>0))
  | false=>s) 0
def EV(ms:List Nat):List Oper->List Nat
 | []=>ms
 | o::r=>EV (hP ms [HV ms o]) r
def TG(l:List Oper):List Nat:=EV [] l
def hR(m i:Nat):Bool:=Nat.beq (Nat.land (Nat.shiftRight m i) 1) 1
def looks(all:List Oper)(o:Oper):List Nat:=
 hP (o.op.operands.toList.filterMap fun x=>match x with|.tmp t=>some t|_=>none)
  (match o.guard with
   | some (g,_)=>match (nY all g).bind (·.dst)with|some d=>[d]|none=>[]
   | none=>[])
def sb(i:Nat)(l:List Nat):Bool:=not (jM (fun j=>not (Nat.beq i j)) l)
def HW(o:Oper)(l:List Nat):Bool:=match o.dst with
 | some d=>sb d l
 | none=>false
def Mn(x y:Oper):Bool:=match x.dst with
 | some d=>match y.dst with|some e=>Nat.beq d e|none=>false
 | none=>false
def Au(all:List Oper)(x y:Oper):Bool:=not (HW x (looks all y))&&(not (HW y (looks all x))&&not (Mn x y))
structure mN where
 cm:Nat
 k6:Nat
 eF:Nat
 /-- a call of a function TH touches jZ memory, where others would stand in its way: EW is run on sc empty heap -/
 lx:Bool
def vX(i:Nat):List Oper->List Nat->List (Oper×Nat×Nat)
 | o::r,m::ms=>(o,i,m)::vX (Nat.succ i) r ms
 | _,_=>[]
def Av(l:List Oper):List (Oper×Nat×Nat):=vX 0 l (TG l)
def EX(o:Oper)(i:Nat):Bool:=jM (fun(e:Edge)=>match Region.binds .any e with
 | true=>Nat.blt e.on i
 | false=>true) o.after.toList
def Mo(all:List Oper):Bool:=
 jM (fun(y:Oper×Nat×Nat)=>EX y.1 y.2.1) (Av all)&&jM (fun(y:Oper×Nat×Nat)=>jM (fun(x:Oper×Nat×Nat)=>match Nat.blt x.2.1 y.2.1 with
  | true=>hR y.2.2 x.2.1||Au all x.1 y.1
  | false=>true) (Av all)) (Av all)
def TI(a7:FuncId->Bool)(op:Op):Bool:=match iu P op with
 | 0=>true
 | 3=>match op with
  | .call c=>match c.callee with
   | .value g=>match g with
    | .func f=>a7 f
    | _=>false
   | _=>false
  | _=>false
 | _=>false
def ahp(a7:FuncId->Bool)(c:Code):Bool:=
 Code.rec (motive:=fun _=>Bool) true (fun _ bf _=>jM (fun(o:Oper)=>TI P a7 o.op) bf.toList) (fun _ _ a b=>a&&b) (fun _ _ _ a b=>a&&b) (fun _ _ a=>a) (fun _ _=>false) (fun _ _ _ _ _ _=>false) (fun _=>true) (fun _ _=>false) (fun _=>true) (fun _=>false) true (fun _=>false) c
def ahq(n:Nat):FuncId->Bool:=
 Nat.rec (motive:=fun _=>FuncId->Bool) (fun _=>false) (fun _ a7 f=>match nY P.funcs.toList f with
  | some fn=>match fn.body with
   | some c=>ahp P a7 c
   | none=>false
  | none=>false) n
def ahr(l:List (Oper×Nat×Nat))(i m:Nat):Bool:=not (jM (fun(x:Oper×Nat×Nat)=>match x.1.guard with
 | some _=>true
 | none=>match Nat.blt x.2.1 i with
  | true=>hR m x.2.1||not (Nat.ble 2 (iu P x.1.op))
  | false=>match Nat.blt i x.2.1 with
   | true=>hR x.2.2 i||not (Nat.ble 3 (iu P x.1.op))
   | false=>true) l)
def TJ(l:List (Oper×Nat×Nat))(x:Oper×Nat×Nat):Bool:=match x.1.guard with
 | some _=>false
 | none=>match iu P x.1.op with
  | 3=>TI P (ahq P 3) x.1.op&&ahr P l x.2.1 x.2.2
  | _=>false
def Aw(l:List (Oper×Nat×Nat))(x:Oper×Nat×Nat):mN:=match TJ P l x with
 | true=>⟨x.2.1,x.2.2,0,true⟩
 | false=>⟨x.2.1,x.2.2,iu P x.1.op,false⟩
def HX(l:List (Oper×Nat×Nat)):List (Oper×mN):=
 l.map fun x=>(x.1,Aw P l x)
def sd(l:List Oper):List (Oper×mN):=HX P (Av l)
def Cz(a b:Option Addr):Bool:=match a with
 | none=>match b with|none=>true|some _=>false
 | some ⟨i,o,s⟩=>match b with
  | none=>false
  | some ⟨tN,dd,cn⟩=>match s with
   | some _=>false
   | none=>match cn with
    | some _=>false
    | none=>Nat.beq i tN&&Nat.beq o dd
def TK(a b:Fn):Bool:=match a with
 | .func f=>match b with|.func g=>Nat.beq f g|_=>false
 | _=>false
def Mp(a b:Bool):Bool:=match a with|true=>b|false=>not b
def Mq(a b:UInt8):Bool:=Nat.beq a.toNat b.toNat
def Ax(sub:Value->Value->Bool)(x y:Value):Bool:=match x with
 | .bool a=>match y with|.bool b=>Mp a b|_=>false
 | .int k a=>match y with|.int eE b=>tE k eE&&oN a b|_=>false
 | .string a=>match y with|.string b=>tD Mq a.data.toList b.data.toList|_=>false
 | .pointer a=>match y with|.pointer b=>Cz a b|_=>false
 | .slice a n c=>match y with|.slice cq k7 b5=>Cz a cq&&(Nat.beq n k7&&Nat.beq c b5)|_=>false
 | .map a=>match y with|.map b=>(match a with|none=>(match b with|none=>true|some _=>false)|some i=>(match b with|none=>false|some j=>Nat.beq i j))|_=>false
 | .nilFunc=>match y with|.nilFunc=>true|_=>false
 | .nilIface=>match y with|.nilIface=>true|_=>false
 | .iface t v=>match y with|.iface EY aH=>Nat.beq t EY&&sub v aH|_=>false
 | .func f a b=>match y with|.func HY cq c0=>TK f HY&&(tD sub a.toList cq.toList&&tD sub b.toList c0.toList)|_=>false
 | .agg a=>match y with|.agg b=>tD sub a.toList b.toList|_=>false
 | _=>false
def Mr:Value->Value->Bool:=Ax (Ax (Ax fun _ _=>false))
def dV(H aa:ar)(id:Nat):Bool:=match H.get id with
 | some b=>match aa.get id with
  | some c0=>Mp b.wr c0.wr&&tD Mr b.cells c0.cells
  | none=>false
 | none=>false
structure lQ where
 cm:Nat
 eF:Nat
 k8:List Nat
 fc:Nat
 aq:Nat
 oP:Nat->Bool
def CA:Value->Option Nat
 | .pointer a=>match a with|some a=>some a.block|none=>none
 | .slice a _ _=>match a with|some a=>some a.block|none=>none
 | _=>none
def b9(l:List Value):List Nat:=l.filterMap CA
def s0(o:Oper)(p:mN)(T:List Value)(H aa:ar):lQ:=⟨p.cm,p.eF,match p.eF with|1=>b9 (j8 o.op.operands.toList T)|4=>b9 (j8 o.op.operands.toList T)|_=>[],H.next,aa.next,match p.eF with|3=>dV H aa|_=>fun _=>false⟩
def yO(l:List Nat)(fc aq:Nat):Bool:=jM (fun i=>Nat.blt i fc||Nat.ble aq i) l
def nJ(l m:List Nat):Bool:=jM (fun i=>not (sb i m)) l
def s3(k j:lQ):Bool:=
 match k.eF with
 | 0=>true
 | 1=>match j.eF with
  | 3=>jM j.oP k.k8
  | 4=>nJ k.k8 j.k8
  | _=>true
 | 2=>match j.eF with
  | 0=>true
  | 1=>yO j.k8 k.fc k.aq
  | 2=>true
  | 4=>yO j.k8 k.fc k.aq
  | _=>false
 | 3=>match j.eF with
  | 0=>true
  | 1=>jM k.oP j.k8
  | 2=>true
  | _=>false
 | 4=>match j.eF with
  | 0=>true
  | 1=>nJ k.k8 j.k8&&yO j.k8 k.fc k.aq
  | 2=>true
  | _=>false
 | _=>false
def EZ(p:mN)(j:lQ)(dq:List lQ):Bool:=match j.eF with
 | 0=>true
 | _=>jM (fun k=>hR p.k6 k.cm||s3 k j) dq
def lx(H:ar):ar:=⟨.nil,H.next,H.dB,[]⟩
def E0(H:ar)(r:R):R:=match r with
 | some (v,br)=>match Nat.beq br.next H.next with
  | true=>some (v,H)
  | false=>none
 | none=>none
def s4(self:hz)(o:Oper)(p:mN)(T:List Value)(H:ar):R:=match p.lx with
 | true=>E0 H ((iK P o.op).f self T (lx H))
 | false=>(iK P o.op).f self T H
def gw(self:hz)(o:Oper)(w:Bool)(T:List Value)(H:ar)(k:List Value->ar->Option dY):Option dY:=
 match w with
 | true=>match (iK P o.op).f self T H with
  | some (v,H)=>k (hZ T o.dst v) H
  | none=>none
 | false=>k (hZ T o.dst undef) H
def jd(self:hz)(all l:List Oper):List Value->ar->Option dY:=
 List.rec (motive:=fun _=>List Value->ar->Option dY) (fun T H=>some ⟨.normal,T,H⟩)
  (fun o _ a7 T H=>gw P self o ((ia all o.guard).f T) T H a7) l
def rz(self:hz)(o:Oper)(p:mN)(w:Bool)(T:List Value)(H:ar)(dq:List lQ)(k:List Value->ar->List lQ->Option dY):Option dY:=
 match w with
 | true=>match s4 P self o p T H with
  | some (v,aa)=>match EZ p (s0 o p T H aa) dq with
   | true=>k (hZ T o.dst v) aa (s0 o p T H aa::dq)
   | false=>none
  | none=>none
 | false=>k (hZ T o.dst undef) H dq
def p3(self:hz)(all:List Oper)(l:List (Oper×mN)):List Value->ar->List lQ->Option dY:=
 List.rec (motive:=fun _=>List Value->ar->List lQ->Option dY) (fun T H _=>some ⟨.normal,T,H⟩)
  (fun o _ a7 T H dq=>rz P self o.1 o.2 ((ia all o.1.guard).f T) T H dq a7) l
def n5(self:hz)(all:List Oper)(T:List Value)(H:ar):Option dY:=
 match Mo all with
 | true=>p3 P self all (sd P all) T H []
 | false=>none
def CB(T:List Value)(H:ar):ResultVar->Option Value
 | .tmp t=>some (b4 T t)
 | .cell a t=>match (nI P t).f (b4 T a) H with
  | some (v,_)=>some v
  | none=>none
def yP(T:List Value)(H:ar):List ResultVar->Option (List Value)
 | []=>some []
 | r::dq=>match CB P T H r with
  | some v=>match yP T H dq with
   | some vs=>some (v::vs)
   | none=>none
  | none=>none
def yQ(dq:List ResultVar)(T:List Value)(H:ar):Option Value:=
 match dq with
 | [r]=>CB P T H r
 | dq=>match yP P T H dq with
  | some vs=>some (.tuple vs.toArray)
  | none=>none
structure HZ where f:hz->List Value->ar->Option dY
def oQ(self:hz)(v:Value)(a b:HZ)(T:List Value)(H:ar):Option dY:=match v with
 | .bool t=>match t with
  | true=>a.f self T H
  | false=>b.f self T H
 | _=>none
def Ay(id:Nat)(o:Option dY):Option dY:=match o with
 | some ⟨e,T,H⟩=>match e with
  | .exit tO=>if Nat.beq tO id then some ⟨.normal,T,H⟩else some ⟨.exit tO,T,H⟩
  | e=>some ⟨e,T,H⟩
 | none=>none
def mO(o:Option dY)(k:List Value->ar->Option dY):Option dY:=match o with
 | some ⟨e,T,H⟩=>match e with
  | .normal=>k T H
  | e=>some ⟨e,T,H⟩
 | none=>none
def E4(o:Option dY)(k:List Value->ar->Option dY):Option dY:=match o with
 | some ⟨e,T,H⟩=>match e with
  | .normal=>k T H
  | _=>none
 | none=>none
def uW(T:List Value)(bJ:List Tmp)(args:List Value):List Value:=match bJ,args with
 | [],_=>T
 | _,[]=>T
 | p::bJ,v::vs=>uW (gJ T p v) bJ vs
def Ms(T:List Value)(l:Nat)(H:ar):Option dY:=match H.dI with
 | []=>none
 | x::dO=>match Nat.beq x.1 l&&Nat.ble H.dB l with
  | true=>match eD dO l with
   | some _=>none
   | none=>match mK x.2 with
   | true=>none
   | false=>match x.2.st with
    | .busy=>none
    | .ready=>some ⟨.normal,T,⟨H.t,H.next,H.dB,dO⟩⟩
    | .over e=>some ⟨e,T,⟨H.t,H.next,H.dB,dO⟩⟩
  | false=>none
def laid(T:List Value)(bJ:List Tmp)(cS body:Code)(H:ar):ar:=
 ⟨(H.t.set H.next none).set (Nat.succ H.next) none,Nat.succ (Nat.succ H.next),H.dB,(Nat.succ H.next,⟨T,bJ,cS,body,.ready⟩)::H.dI⟩
def uX(l:Nat):Value:=.func (.yield l) #[] #[]
def uY(self:hz)(g:Value)(bJ:List Tmp)(cS body:Code)(T:List Value)(H:ar):Option dY:=
 match tL g [uX (Nat.succ H.next)]with
 | some t=>match t with
  | .fn f args=>match self (.call f args (laid T bJ cS body H))with
   | some ⟨_,fw,br⟩=>match fw with
    | [_]=>Ms T (Nat.succ H.next) br
    | _=>none
   | none=>none
  | .ry _ _=>none
 | none=>none
def uZ(l:Nat)(st:uP)(H:ar):Option ar:=match Nat.ble H.dB l with
 | true=>match eD H.dI l with
  | some r=>match mK r||mK ⟨r.T,r.bJ,r.cS,r.body,st⟩with
   | true=>none
   | false=>some ⟨H.t,H.next,H.dB,lv H.dI l ⟨r.T,r.bJ,r.cS,r.body,st⟩⟩
  | none=>none
 | false=>none
def ahs:uP->Bool
 | .ready=>true
 | _=>false
def Az(l:Nat)(H:ar):Option ar:=match eD H.dI l with
 | some r=>match ahs r.st with
  | true=>uZ l .busy H
  | false=>none
 | none=>none
def CC:mJ->uP
 | .normal=>.ready
 | e=>.over e
def yR:mJ->Bool
 | .normal=>true
 | _=>false
def E5(l:Nat)(o:Option dY):Option dY:=match o with
 | some ⟨e,_,H⟩=>match uZ l (CC e) H with
  | some br=>some ⟨.ret,[.bool (yR e)],br⟩
  | none=>none
 | none=>none
def dn(c6:Bool)(c:Code):HZ:=
 Code.rec (motive:=fun _=>HZ)
  ⟨fun _ T H=>some ⟨.normal,T,H⟩⟩
  (fun _ bf d=>match d with
   | true=>⟨fun self T H=>n5 P self bf.toList T H⟩
   | false=>⟨fun self T H=>jd P self bf.toList bf.toList T H⟩)
  (fun _ _ x y=>⟨fun self T H=>mO (x.f self T H) fun T H=>y.f self T H⟩)
  (fun c _ _ x y=>⟨fun self T H=>oQ self ((dT c).g T) x y T H⟩)
  (fun id _ x=>⟨fun self T H=>Ay id (x.f self T H)⟩)
  (fun b _=>⟨fun self T H=>self (.loop c6 b T H)⟩)
  (fun g bJ cS b _ _=>match c6 with
   | true=>⟨fun self T H=>uY self ((Cv g).g T) bJ.toList cS b T H⟩
   | false=>⟨fun _ _ _=>none⟩)
  (fun id=>⟨fun _ T H=>some ⟨.exit id,T,H⟩⟩)
  (fun _ _=>⟨fun _ _ _=>none⟩)
  (fun _=>⟨fun _ T H=>some ⟨.normal,T,H⟩⟩)
  (fun _=>⟨fun _ _ _=>none⟩)
  ⟨fun _ T H=>some ⟨.ret,T,H⟩⟩
  (fun _=>⟨fun _ _ _=>none⟩) c
def vY(self:hz)(l:Nat)(args:List Value)(H:ar):Option dY:=match eD H.dI l with
 | some r=>match Nat.beq (fG args) (fG r.bJ)&&not (mK r)with
  | true=>E4 ((dn P false r.cS).f self (uW r.T r.bJ args) H) fun fw br=>match Az l br with
   | some cB=>E5 l ((dn P false r.body).f self fw cB)
   | none=>none
  | false=>none
 | none=>none
structure aht where f:hz->List Value->ar->Option dY
def u0(dq:List ResultVar)(o:Option dY):Option dY:=match o with
 | some ⟨e,T,H⟩=>match e with
  | .exit _=>none
  | _=>match yQ P dq T H with
   | some v=>some ⟨.ret,[v],H⟩
   | none=>none
 | none=>none
def tP(f:FuncId):aht:=
 match P.funcs.toList[f]? with
 | some fn=>match fn.body with
  | some c=>⟨fun self args H=>u0 P fn.results.toList ((dn P true c).f self (hP args (fR (fn.ntmps-fG args) [undef])) H)⟩
  | none=>⟨fun _ _ _=>none⟩
 | none=>⟨fun _ _ _=>none⟩
def step(self:hz):At->Option dY
 | .loop c6 c T H=>mO ((dn P c6 c).f self T H) fun T H=>self (.loop c6 c T H)
 | .call f args H=>(tP P f).f self args H
 | .round l args H=>vY P self l args H
end
end
end Go.Ab
namespace Go.Ab
open Go
theorem mj{α:Type}(l:List α)(n:Nat):p1 l n=l.take n:=by
 induction l generalizing n with
 | nil=>simp[p1]
 | cons x r a7=>cases n with
  | zero=>rfl
  | succ n=>simp_all[p1]
theorem nh{α:Type}(l:List α)(n:Nat):qD l n=l.drop n:=by
 induction l generalizing n with
 | nil=>simp[qD]
 | cons x r a7=>cases n with
  | zero=>rfl
  | succ n=>simp_all[qD]
theorem iv{α:Type}(l m:List α):hP l m=l++m:=by
 induction l with
 | nil=>rfl
 | cons x r a7=>simp_all[hP]
theorem gE{α:Type}(l:List α):fG l=l.length:=by
 have key:∀(l:List α) (n:Nat),(List.rec (motive:=fun _=>Nat->Nat) (fun n=>n) (fun _ _ a7 n=>a7 (Nat.succ n)) l n:Nat)=n+l.length:=by
  intro l;induction l with
  | nil=>grind
  | cons x r a7=>grind
 simp_all[fG]
theorem u1{α:Type}(l:List α)(n:Nat):nY l n=l[n]?:=by
 induction l generalizing n with
 | nil=>rfl
 | cons x r a7=>cases n with
  | zero=>rfl
  | succ n=>simp_all[nY]
theorem j0{α:Type}(p:α->Bool)(l:List α):jM p l=l.all p:=by
 induction l with
 | nil=>rfl
 | cons x r a7=>show cond (p x) (jM p r) false=_;simp_all
theorem oR(l:List Value)(n:Nat):b4 l n=l.getD n undef:=by
 induction l generalizing n with
 | nil=>rfl
 | cons x r a7=>cases n with
  | zero=>rfl
  | succ n=>simp_all[b4]
theorem oS(l:List Value)(n:Nat)(v:Value):gJ l n v=l.set n v:=by
 induction l generalizing n with
 | nil=>rfl
 | cons x r a7=>cases n with
  | zero=>rfl
  | succ n=>simp_all[gJ]
theorem lR(m n:Nat):Nat.ble m n=decide (m<=n):=by
 cases h:Nat.ble m n
 grind[ble_eq_true_of_le]
 simp_all
theorem k9(a b:Int):j7 a b=decide (a<=b):=by
 cases a with
 | ofNat m=>cases b with
  | ofNat n=>show Nat.ble m n=_;rw[lR];simp
  | negSucc n=>show false=_;grind
 | negSucc m=>cases b with
  | ofNat n=>rfl
  | negSucc n=>show Nat.ble n m=_;grind[lR]
theorem rA(a b:Int):oN a b=decide (a=b):=by
 cases a<;>cases b;rename_i m n;show Nat.beq m n=_;cases h:Nat.beq m n;symm;rw[decide_eq_false_iff_not];intro a6;injection a6 with a6;simp_all
 simp_all
 rfl;rfl;rename_i m n;show Nat.beq n m=_;cases h:Nat.beq n m;symm;rw[decide_eq_false_iff_not];intro a6;simp_all
 simp_all
theorem Mt(x:Value)(o:Option (List Value)):Ag x o=o.map (x::·):=by cases o<;>rfl
theorem ahu(n:Nat)(l:List Value):Mc n l=l.drop n:=by
 induction n generalizing l with
 | zero=>rfl
 | succ n a7=>cases l with
  | nil=>rfl
  | cons x r=>simp_all[Mc]
theorem ahv(n:Nat)(l:List Value):Md n l=if(l.take n).length=n then some (l.take n)else none:=by
 induction n generalizing l with
 | zero=>rfl
 | succ n a7=>cases l with
  | nil=>rfl
  | cons x r=>
   show Ag x (Md n r)=_
   simp_all[Mt]
theorem ahw(l:List Value)(o n:Nat):Me l o n=if((l.drop o).take n).length=n then some ((l.drop o).take n)else none:=by grind[Me,ahv,ahu]
theorem ahx(vs l:List Value):EO vs l=if vs.length<=l.length then some (vs++l.drop vs.length)else none:=by
 induction vs generalizing l with
 | nil=>rfl
 | cons v vs a7=>cases l with
  | nil=>rfl
  | cons x r=>
   show Ag v (EO vs r)=_
   simp_all[Mt]
theorem ahy(l:List Value)(o:Nat)(vs:List Value):Mf l o vs=if o+vs.length<=l.length then some (l.take o++(vs++l.drop (o+vs.length)))else none:=by
 unfold Mf;induction o generalizing l with
 | zero=>
  show EO vs l=_
  grind[ahx]
 | succ o a7=>cases l with
  | nil=>rw[if_neg (by simp)];rfl
  | cons x r=>
   show Ag x (TA (EO vs) o r)=_;rw[a7,Mt]
   grind
theorem AA(H:ar)(id off n:Nat):r5 H id off n=match H.get id with
  | some b=>xb (p1 (qD b.cells off) n) n
  | none=>none:=by
 unfold r5;cases H.get id with
 | none=>rfl
 | some b=>
  simp only[ahw,xb,mj,nh,gE];by_cases h:((b.cells.drop off).take n).length=n
  simp_all
  rw[if_neg h]
  grind[eq_of_beq_eq_true]
theorem H0(H:ar)(id off:Nat)(vs:List Value):uQ H id off vs=match H.get id with
  | some b=>
   match H.nZ id b&&(Nat.ble (off+fG vs) (fG b.cells)&&jM eA vs)with
   | true=>some (H.set id (some ⟨hP (p1 b.cells off) (hP vs (qD b.cells (off+fG vs))),b.wr⟩))
   | false=>none
  | none=>none:=by
 unfold uQ;cases H.get id with
 | none=>rfl
 | some b=>
  simp only[ahy,iv,mj,nh,gE];cases h1:H.nZ id b with
  | false=>rfl
  | true=>
   cases h2:jM eA vs with
   | false=>simp
   | true=>
    by_cases h:off+vs.length<=b.cells.length
    simp_all[ble_eq_true_of_le]
    rw[if_neg h];have:Nat.ble (off+vs.length) b.cells.length=false:=by
     cases an:Nat.ble (off+vs.length) b.cells.length with
     | false=>rfl
     | true=>simp_all[le_of_ble_eq_true]
    simp_all
namespace Tr
variable{α:Type}
theorem E6(l r:Tr α)(v:Option α)(k:Nat):(Tr.kO l v r).get (k+1)=cond (Nat.beq (Nat.mod k 2) 0) (l.get (Nat.div k 2)) (r.get (Nat.div k 2)):=rfl
theorem CD(t:Tr α)(n m:Nat)(v:Option α)(b:α)(h:(t.set n v).get m=some b):(m=n/\v=some b)\/(m≠n/\t.get m=some b):=by
 induction t generalizing n m with
 | nil=>
  cases n with
  | zero=>cases m with
   | zero=>exact .inl ⟨rfl,h⟩
   | succ m=>have a6:cond (Nat.beq (Nat.mod m 2) 0) ((Tr.nil:Tr α).get (Nat.div m 2)) ((Tr.nil:Tr α).get (Nat.div m 2))=some b:=h;cases aD:Nat.beq (Nat.mod m 2) 0<;>rw[aD]at a6<;>cases a6
  | succ n=>cases h
 | kO l x r Ck Cl=>
  cases n with
  | zero=>cases m with
   | zero=>exact .inl ⟨rfl,h⟩
   | succ m=>exact .inr ⟨by simp,h⟩
  | succ n=>
   have e:(Tr.kO l x r).set (n+1) v=cond (Nat.beq (Nat.mod n 2) 0) (.kO (l.set (Nat.div n 2) v) x r) (.kO l x (r.set (Nat.div n 2) v)):=rfl;rw[e]at h;cases m with
   | zero=>cases aD:Nat.beq (Nat.mod n 2) 0<;>rw[aD]at h<;>exact .inr ⟨by simp,h⟩
   | succ m=>
    have p4:∀k,Nat.mod k 2=k%2:=fun _=>rfl
    have pq:∀k,Nat.div k 2=k/2:=fun _=>rfl
    cases aD:Nat.beq (Nat.mod n 2) 0<;>rw[aD]at h<;>simp only[cond,E6]at h⊢ <;> cases hm:Nat.beq (Nat.mod m 2) 0<;>rw[hm]at h<;>simp only at h⊢
    grind[ne_of_beq_eq_false]
    grind
    grind
    grind[eq_of_beq_eq_true]
theorem ahz(t:Tr α)(n m:Nat)(v:Option α)(da:m≠n):(t.set n v).get m=t.get m\/((t.set n v).get m=none/\t.get m=none):=by
 cases h:(t.set n v).get m with
 | some b=>grind[CD]
 | none=>cases a6:t.get m with
  | none=>simp_all
  | some b=>
   exfalso;induction t generalizing n m with
   | nil=>cases a6
   | kO l x r Ck Cl=>
    cases n with
    | zero=>cases m with
     | zero=>omega
     | succ m=>
           have:(Tr.kO l x r).get (m+1)=none:=h
           simp_all
    | succ n=>
     have e:(Tr.kO l x r).set (n+1) v=cond (Nat.beq (Nat.mod n 2) 0) (.kO (l.set (Nat.div n 2) v) x r) (.kO l x (r.set (Nat.div n 2) v)):=rfl;rw[e]at h;cases m with
     | zero=>cases aD:Nat.beq (Nat.mod n 2) 0<;>rw[aD]at h<;>(have:x=none:=h)<;>(have:x=some b:=a6)<;>simp_all
     | succ m=>
      have p4:∀k,Nat.mod k 2=k%2:=fun _=>rfl
      have pq:∀k,Nat.div k 2=k/2:=fun _=>rfl
      cases aD:Nat.beq (Nat.mod n 2) 0<;>rw[aD]at h<;>simp only[cond,E6]at h a6<;>cases hm:Nat.beq (Nat.mod m 2) 0<;>rw[hm]at h a6<;>simp only at h a6
      grind[ne_of_beq_eq_false]
      simp_all
      simp_all
      grind[eq_of_beq_eq_true]
theorem ly(t:Tr α)(n m:Nat)(v:Option α)(da:m≠n):(t.set n v).get m=t.get m:=by grind[ahz]
theorem yS(t:Tr α)(n:Nat):(t.set n none).get n=none:=by
 cases h:(t.set n none).get n with
 | none=>rfl
 | some b=>
       rcases CD t n n none b h with⟨_,h2⟩|⟨h1,_⟩
       cases h2;omega
end Tr
end Go.Ab
namespace Go.Ab
open Go
abbrev cO:=Nat->Option (Nat×Nat×Nat)
inductive bH (σ:cO):List Value->List Value->Prop
 | nil:bH σ [] []
 | bool {r dx:List Value} (b:Bool):bH σ r dx->bH σ (.bool b::r) (.bool b::dx)
 | int {r dx:List Value} (k:IntKind) (n:Int):bH σ r dx->bH σ (.int k n::r) (.int k n::dx)
 | string {r dx:List Value} (s:ByteArray):bH σ r dx->bH σ (.string s::r) (.string s::dx)
 | xf {r dx:List Value}:bH σ r dx->bH σ (.pointer none::r) (.pointer none::dx)
 | ai {r dx:List Value} (id off c o s:Nat):σ id=some (c,o,s)->bH σ r dx->bH σ (.pointer (some ⟨id,off,none⟩)::r) (.pointer (some ⟨c,o+off,none⟩)::dx)
 | kP {r dx:List Value}:bH σ r dx->bH σ (.slice none 0 0::r) (.slice none 0 0::dx)
 | n7 {r dx:List Value} (id off len size c o s:Nat) (a:Addr):σ id=some (c,o,s)->0<size->(len=0\/(a=⟨c,o+off,none⟩/\o+off+len*size<=s))->bH σ r dx->
   bH σ (.slice (some ⟨id,off,none⟩) len (2*size+1)::r) (.slice (some a) len len::dx)
 | nK {r dx:List Value} (id off len size cap c o s:Nat) (a:Addr):σ id=some (c,o,s)->0<size->len<=cap->
   ((a=⟨c,o+off,none⟩/\o+off+cap*size<=s)\/(len=0/\cap=0))->bH σ r dx->
   bH σ (.slice (some ⟨id,off,none⟩) len (2*size)::r) (.slice (some a) len cap::dx)
 | xg {r dx:List Value}:bH σ r dx->bH σ (.map none::r) (.map none::dx)
 | xh {r dx:List Value} (id c o s:Nat):σ id=some (c,o,s)->bH σ r dx->bH σ (.map (some id)::r) (.map (some c)::dx)
 | func {r dx:List Value} (f:FuncId) (x bK y eG:Array Value):bH σ x.toList bK.toList->bH σ y.toList eG.toList->bH σ r dx->bH σ (.func (.func f) x y::r) (.func (.func f) bK eG::dx)
 | ry {r dx:List Value} (id c o s:Nat):σ id=some (c,o,s)->bH σ r dx->bH σ (.func (.yield id) #[] #[]::r) (.func (.yield c) #[] #[]::dx)
 | nilFunc {r dx:List Value}:bH σ r dx->bH σ (.nilFunc::r) (.nilFunc::dx)
 | nilIface {r dx:List Value}:bH σ r dx->bH σ (.nilIface::r) (.nilIface::dx)
 | iface {r dx:List Value} (t:TypeId) (v aH:Value):bH σ [v] [aH]->bH σ r dx->bH σ (.iface t v::r) (.iface t aH::dx)
 | agg {r dx:List Value} (x bK:Array Value):bH σ x.toList bK.toList->bH σ r dx->bH σ (.agg x::r) (.agg bK::dx)
 | tuple {r dx:List Value} (x bK:Array Value):bH σ x.toList bK.toList->bH σ r dx->bH σ (.tuple x::r) (.tuple bK::dx)
abbrev ch(σ:cO)(v aH:Value):Prop:=bH σ [v] [aH]
section
variable{σ τ:cO}
theorem bH.cons{v aH:Value}{r dx:List Value}(h:ch σ v aH)(U:bH σ r dx):bH σ (v::r) (aH::dx):=by
 cases h
 case bool b _=>exact .bool b U
 case int k n _=>exact .int k n U
 case string s _=>exact .string s U
 case xf _=>exact .xf U
 case ai id off c o s aN _=>exact .ai id off c o s aN U
 case kP _=>exact .kP U
 case n7 id off len size c o s a aN h1 h2 _=>exact .n7 id off len size c o s a aN h1 h2 U
 case nK id off len size cap c o s a aN h1 h2 aB _=>exact .nK id off len size cap c o s a aN h1 h2 aB U
 case xg _=>exact .xg U
 case xh id c o s aN _=>exact .xh id c o s aN U
 case func f x bK y eG h1 h2 _=>exact .func f x bK y eG h1 h2 U
 case ry id c o s aN _=>exact .ry id c o s aN U
 case nilFunc _=>exact .nilFunc U
 case nilIface _=>exact .nilIface U
 case iface t w aV h1 _=>exact .iface t w aV h1 U
 case agg x bK h1 _=>exact .agg x bK h1 U
 case tuple x bK h1 _=>exact .tuple x bK h1 U
theorem bH.mP{v:Value}{r l:List Value}(h:bH σ (v::r) l):∃aH dx,l=aH::dx/\ch σ v aH/\bH σ r dx:=by
 cases h
 case bool dx b h=>exact⟨_,_,rfl,.bool b .nil,h⟩
 case int dx k n h=>exact⟨_,_,rfl,.int k n .nil,h⟩
 case string dx s h=>exact⟨_,_,rfl,.string s .nil,h⟩
 case xf dx h=>exact⟨_,_,rfl,.xf .nil,h⟩
 case ai dx id off c o s aN h=>exact⟨_,_,rfl,.ai id off c o s aN .nil,h⟩
 case kP dx h=>exact⟨_,_,rfl,.kP .nil,h⟩
 case n7 dx id off len size c o s a aN h1 h2 h=>exact⟨_,_,rfl,.n7 id off len size c o s a aN h1 h2 .nil,h⟩
 case nK dx id off len size cap c o s a aN h1 h2 aB h=>exact⟨_,_,rfl,.nK id off len size cap c o s a aN h1 h2 aB .nil,h⟩
 case xg dx h=>exact⟨_,_,rfl,.xg .nil,h⟩
 case xh dx id c o s aN h=>exact⟨_,_,rfl,.xh id c o s aN .nil,h⟩
 case func dx f x bK y eG h1 h2 h=>exact⟨_,_,rfl,.func f x bK y eG h1 h2 .nil,h⟩
 case ry dx id c o s aN h=>exact⟨_,_,rfl,.ry id c o s aN .nil,h⟩
 case nilFunc dx h=>exact⟨_,_,rfl,.nilFunc .nil,h⟩
 case nilIface dx h=>exact⟨_,_,rfl,.nilIface .nil,h⟩
 case iface dx t w aV h1 h=>exact⟨_,_,rfl,.iface t w aV h1 .nil,h⟩
 case agg dx x bK h1 h=>exact⟨_,_,rfl,.agg x bK h1 .nil,h⟩
 case tuple dx x bK h1 h=>exact⟨_,_,rfl,.tuple x bK h1 .nil,h⟩
theorem bH.qI{l:List Value}(h:bH σ [] l):l=[]:=by cases h;rfl
theorem bH.length{l aF:List Value}(h:bH σ l aF):l.length=aF.length:=by
 induction l generalizing aF with
 | nil=>rw[h.qI]
 | cons v r a7=>obtain⟨aH,dx,rfl,_,U⟩:=h.mP;grind
theorem bH.mono(hm:∀id x,σ id=some x->τ id=some x){l aF:List Value}(h:bH σ l aF):bH τ l aF:=by
 induction h with
 | nil=>exact .nil
 | bool b _ a7=>exact .bool b a7
 | int k n _ a7=>exact .int k n a7
 | string s _ a7=>exact .string s a7
 | xf _ a7=>exact .xf a7
 | ai id off c o s aN _ a7=>exact .ai id off c o s (hm _ _ aN) a7
 | kP _ a7=>exact .kP a7
 | n7 id off len size c o s a aN h1 h2 _ a7=>exact .n7 id off len size c o s a (hm _ _ aN) h1 h2 a7
 | nK id off len size cap c o s a aN h1 h2 aB _ a7=>exact .nK id off len size cap c o s a (hm _ _ aN) h1 h2 aB a7
 | xg _ a7=>exact .xg a7
 | xh id c o s aN _ a7=>exact .xh id c o s (hm _ _ aN) a7
 | func f x bK y eG _ _ _ i1 jR a7=>exact .func f x bK y eG i1 jR a7
 | ry id c o s aN _ a7=>exact .ry id c o s (hm _ _ aN) a7
 | nilFunc _ a7=>exact .nilFunc a7
 | nilIface _ a7=>exact .nilIface a7
 | iface t v aH _ _ i1 a7=>exact .iface t v aH i1 a7
 | agg x bK _ _ i1 a7=>exact .agg x bK i1 a7
 | tuple x bK _ _ i1 a7=>exact .tuple x bK i1 a7
theorem bH.append{l aF m iw:List Value}(h:bH σ l aF)(k:bH σ m iw):bH σ (l++m) (aF++iw):=by
 induction l generalizing aF with
 | nil=>rw[h.qI];exact k
 | cons v r a7=>obtain⟨aH,dx,rfl,hv,U⟩:=h.mP;exact(hv.cons (a7 U))
theorem bH.take{l aF:List Value}(h:bH σ l aF)(n:Nat):bH σ (l.take n) (aF.take n):=by
 induction l generalizing aF n with
 | nil=>rw[h.qI];simp;exact .nil
 | cons v r a7=>
  obtain⟨aH,dx,rfl,hv,U⟩:=h.mP;cases n with
  | zero=>exact .nil
  | succ n=>exact hv.cons (a7 U n)
theorem bH.drop{l aF:List Value}(h:bH σ l aF)(n:Nat):bH σ (l.drop n) (aF.drop n):=by
 induction l generalizing aF n with
 | nil=>rw[h.qI];simp;exact .nil
 | cons v r a7=>
  obtain⟨aH,dx,rfl,hv,U⟩:=h.mP;cases n with
  | zero=>simp_all
  | succ n=>grind
theorem bH.get{l aF:List Value}(h:bH σ l aF)(n:Nat)(v:Value)(hv:l[n]?=some v):∃aH,aF[n]?=some aH/\ch σ v aH:=by
 induction l generalizing aF n with
 | nil=>simp at hv
 | cons x r a7=>
  obtain⟨bK,dx,rfl,al,U⟩:=h.mP
  grind
theorem bH.set{l aF:List Value}(h:bH σ l aF)(n:Nat){v aH:Value}(hv:ch σ v aH):bH σ (l.set n v) (aF.set n aH):=by
 induction l generalizing aF n with
 | nil=>rw[h.qI];simp;exact .nil
 | cons x r a7=>
  obtain⟨bK,dx,rfl,al,U⟩:=h.mP;cases n with
  | zero=>exact hv.cons U
  | succ n=>exact al.cons (a7 U n)
theorem ch.undef:ch σ undef undef:=.tuple _ _ .nil .nil
theorem bH.getD{l aF:List Value}(h:bH σ l aF)(n:Nat):ch σ (l.getD n undef) (aF.getD n undef):=by
 cases aR:l[n]? with
 | none=>
  have h1:=List.getElem?_eq_none_iff.1 aR;have h2:aF[n]?=none:=List.getElem?_eq_none_iff.2 (by have:=h.length;omega)
  simp_all[ch.undef]
 | some v=>obtain⟨u,bc,U⟩:=h.get n v aR;simp_all
theorem bH.TL{α:Type}(k:IntKind)(g:α->Int)(l:List α):bH σ (l.map fun x=>.int k (g x)) (l.map fun x=>.int k (g x)):=by
 induction l with
 | nil=>exact .nil
 | cons x r a7=>exact .int k (g x) a7
theorem E7{v:Value}(h:Cm v=true):ch σ v v:=by
 cases v with
 | bool b=>exact .bool b .nil
 | int k n=>exact .int k n .nil
 | string s=>exact .string s .nil
 | pointer a=>cases a with
  | none=>exact .xf .nil
  | some a=>cases h
 | slice a n c=>cases a with
  | none=>simp only[Cm,Bool.and_eq_true]at h;obtain rfl:=eq_of_beq_eq_true h.1;obtain rfl:=eq_of_beq_eq_true h.2;exact .kP .nil
  | some a=>cases h
 | map r=>cases r with
  | none=>exact .xg .nil
  | some a=>cases h
 | func fn x y=>cases fn with
  | func f=>simp only[Cm,Bool.and_eq_true,gE]at h;have h1:=eq_of_beq_eq_true h.1;have h2:=eq_of_beq_eq_true h.2;have bb:x.toList=[]:=length_eq_zero_iff.1 h1;have bt:y.toList=[]:=length_eq_zero_iff.1 h2;exact .func f x x y y (by rw[bb];exact .nil) (by rw[bt];exact .nil) .nil
  | _=>cases h
 | nilFunc=>exact .nilFunc .nil
 | nilIface=>exact .nilIface .nil
 | _=>cases h
theorem ahA{l:List Value}(h:jM Cm l=true):bH σ l l:=by
 rw[j0]at h;induction l with
 | nil=>exact .nil
 | cons v r a7=>rw[all_cons,Bool.and_eq_true]at h;exact(E7 h.1).cons (a7 h.2)
theorem u2{v:Value}(h:Cn v=true):ch σ v v:=by
 cases v with
 | agg ao=>exact .agg ao ao (ahA h) .nil
 | tuple vs=>simp only[Cn,gE]at h;have e:vs.toList=[]:=length_eq_zero_iff.1 (eq_of_beq_eq_true h);exact .tuple vs vs (by rw[e];exact .nil) .nil
 | bool b=>exact .bool b .nil
 | int k n=>exact .int k n .nil
 | string s=>exact .string s .nil
 | pointer a=>exact E7 h
 | slice a n c=>exact E7 h
 | map r=>exact E7 h
 | func fn x y=>exact E7 h
 | nilFunc=>exact .nilFunc .nil
 | nilIface=>exact .nilIface .nil
 | float k b=>cases h
 | complex k a b=>cases h
 | chan r=>cases h
 | iface t v=>cases h
theorem ch.cells{v aH:Value}(h:ch σ v aH):bH σ (cZ v) aH.cells.toList:=by
 cases h
 case agg x bK h1 _=>exact h1
 case bool b _=>exact .bool b .nil
 case int k n _=>exact .int k n .nil
 case string s _=>exact .string s .nil
 case xf _=>exact .xf .nil
 case ai id off c o s aN _=>exact .ai id off c o s aN .nil
 case kP _=>exact .kP .nil
 case n7 id off len size c o s a aN h1 h2 _=>exact .n7 id off len size c o s a aN h1 h2 .nil
 case nK id off len size cap c o s a aN h1 h2 aB _=>exact .nK id off len size cap c o s a aN h1 h2 aB .nil
 case xg _=>exact .xg .nil
 case xh id c o s aN _=>exact .xh id c o s aN .nil
 case func f x bK y eG h1 h2 _=>exact .func f x bK y eG h1 h2 .nil
 case ry id c o s aN _=>exact .ry id c o s aN .nil
 case nilFunc _=>exact .nilFunc .nil
 case nilIface _=>exact .nilIface .nil
 case iface t w aV h1 _=>exact .iface t w aV h1 .nil
 case tuple x bK h1 _=>exact .tuple x bK h1 .nil
end
def TM(σ:cO)(w:World)(id:Nat)(b:ay):Prop:=
 ∃c o s db cW ec,σ id=some (c,o,s)/\w.heap[c]?=some (.cells db cW ec)/\db.size=s/\o+b.cells.length<=s/\
  bH σ b.cells ((db.toList.drop o).take b.cells.length)/\(b.wr=true->ec.1<=ec.2/\∀i,i<s->(ec.1<=i&&i<ec.2)=false)
structure jS (σ:cO) (B:Nat) (h:Nat->Option ay) (w:World):Prop where
 fC:∀id b,h id=some b->TM σ w id b
 own:∀id b,h id=some b->b.wr=true->∃c o s,σ id=some (c,o,s)/\B<=c
 la:∀i j ib gf,i≠j->h i=some ib->h j=some gf->ib.wr=true->∀c o s b5 dd cn,σ i=some (c,o,s)->σ j=some (b5,dd,cn)->c≠b5
def Mu(σ:cO)(h:Nat->Option ay)(c:Nat):Prop:=∃id b o s,h id=some b/\b.wr=true/\σ id=some (c,o,s)
structure lb (B:Nat) (σ:cO) (h:Nat->Option ay) (n:Nat) (w:World) (τ:cO) (a6:Nat->Option ay) (k7:Nat) (aV:World):Prop where
 fD:jS τ B a6 aV
 eu:n<=k7
 ext:∀id,id<n\/k7<=id->τ id=σ id
 mono:∀id x,σ id=some x->τ id=some x
 os:aV.os=w.os
 tape:aV.tape=w.tape
 output:aV.output=w.output
 size:w.heap.size<=aV.heap.size
 ld:∀c,c<w.heap.size->¬Mu σ h c->aV.heap[c]?=w.heap[c]?
 s5:∀c,Mu τ a6 c->c<w.heap.size->Mu σ h c
theorem lb.refl{B:Nat}{σ:cO}{h:Nat->Option ay}{n:Nat}{w:World}(aw:jS σ B h w):lb B σ h n w σ h n w:=
 ⟨aw,Nat.le_refl _,fun _ _=>rfl,fun _ _ h=>h,rfl,rfl,rfl,Nat.le_refl _,fun _ _ _=>rfl,fun _ h _=>h⟩
theorem lb.trans{B:Nat}{σ τ iV:cO}{h h1 h2:Nat->Option ay}{n eZ fI:Nat}{w dH e0:World}(a:lb B σ h n w τ h1 eZ dH)(b:lb B τ h1 eZ dH iV h2 fI e0):
  lb B σ h n w iV h2 fI e0:=by
 refine⟨b.fD,Nat.le_trans a.eu b.eu,fun id eW=>?_,fun id x al=>b.mono _ _ (a.mono _ _ al),b.os.trans a.os,b.tape.trans a.tape,b.output.trans a.output,Nat.le_trans a.size b.size,
  fun c aD ey=>?_,fun c bC aD=>a.s5 c (b.s5 c bC (Nat.lt_of_lt_of_le aD a.size)) aD⟩
 have h1:=a.eu;have h2:=b.eu;rw[b.ext id (by omega),a.ext id (by omega)];rw[b.ld c (Nat.lt_of_lt_of_le aD a.size) (fun bC=>ey (a.s5 c bC aD)),a.ld c aD ey]
open Classical in
noncomputable def iW(h:Nat->Option ay)(H aa:ar):Nat->Option ay:=fun id=>if aa.get id=H.get id then h id else aa.get id
theorem AB(h:Nat->Option ay)(H:ar):iW h H H=h:=by grind[iW]
end Go.Ab
namespace Go.Ab
open Go
section
variable{P:Program}
theorem CE(c o i:Nat):(⟨c,o,none⟩:Addr).add i=⟨c,o+i,none⟩:=by simp_all[Addr.add]
theorem ahB(w:World)(c off n:Nat)(db:Array Value)(t:TypeId)(ec:Nat×Nat)(hg:w.heap[c]?=some (.cells db t ec))(aR:off+n<=db.size):
  (loadCells ⟨c,off,none⟩ n).run P w=.ok ((db.toList.drop off).take n).toArray w:=by
 have aE:((db.toList.drop off).take n).length=n:=by grind
 have:=run_loadCells_list (P:=P) w ⟨c,off,none⟩ ((db.toList.drop off).take n) (fun j v hv=>by simp_all[CE,List.getElem?_take,World.cell?])
 simp_all
theorem ahC(w:World)(c i:Nat)(db:Array Value)(t:TypeId)(ec:Nat×Nat)(hg:w.heap[c]?=some (.cells db t ec)):w.frozen? ⟨c,i,none⟩=(ec.1<=i&&i<ec.2):=by simp_all[World.frozen?]
theorem Mv(g o:Nat)(t:TypeId)(ec:Nat×Nat):∀(vs:List Value) (i:Nat) (p5:Array Value) (w:World),w.heap[g]?=some (.cells p5 t ec)->o+i+vs.length<=p5.size->(∀v∈vs,v.oneCell'=true)->
  (∀j,j<p5.size->(ec.1<=j&&j<ec.2)=false)->
  (storeCells ⟨g,o,none⟩ vs i).run P w=.ok () (w.setRow g (p5.toList.take (o+i)++vs++p5.toList.drop (o+i+vs.length)).toArray)
 | [],i,p5,w,hg,_,_,_=>by simp only[storeCells,append_nil,length_nil,Nat.add_zero,take_append_drop,Array.toArray_toList];rw[setRow_self w g p5 t ec hg];rfl
 | v::dO,i,p5,w,hg,aE,h1,hf=>by
  have aq:o+i<p5.size:=by simp at aE;omega
  have E8:w.cell? ⟨g,o+i,none⟩=some p5[o+i]:=by simp[World.cell?,hg,aq]
  have ahD:w.frozen? ⟨g,o+i,none⟩=false:=by rw[ahC w g (o+i) p5 t ec hg];exact hf _ aq
  have hb:(store ((⟨g,o,none⟩:Addr).add i) v).run P w=.ok () (w.setRow g (p5.setIfInBounds (o+i) v)):=by rw[CE,run_store P w _ v _ (h1 v (by simp)),E8];simp[ahD,setCell_eq_setRow w g (o+i) p5 t ec v hg]
  have a7:=Mv g o t ec dO (i+1) (p5.setIfInBounds (o+i) v) (w.setRow g (p5.setIfInBounds (o+i) v)) (setRow_heap w g p5 _ t _ hg) (by simp at aE⊢;omega) (fun x al=>h1 x (by simp[al])) (by simpa using hf);simp only[storeCells,Sem.run_bind,hb,Result.andThen_ok,a7,setRow_setRow]
  congr 3
  have e:=list_seg_step p5.toList (o+i) v dO (by simp at aE⊢;omega);simpa [Array.toList_setIfInBounds,Nat.add_assoc]using e
end
namespace Tr
variable{α:Type}
theorem TN(t:Tr α)(n:Nat)(v:Option α)(b:α)(h:t.get n=some b):(t.set n v).get n=v:=by
 induction t generalizing n with
 | nil=>cases h
 | kO l x r Ck Cl=>
  cases n with
  | zero=>rfl
  | succ n=>
   have e:(Tr.kO l x r).set (n+1) v=cond (Nat.beq (Nat.mod n 2) 0) (.kO (l.set (Nat.div n 2) v) x r) (.kO l x (r.set (Nat.div n 2) v)):=rfl;rw[e];rw[E6]at h;cases aD:Nat.beq (Nat.mod n 2) 0<;>rw[aD]at h<;>simp only[cond,E6]at h⊢ <;> rw[aD]
   grind
   simp_all
end Tr
section
variable{σ τ:cO}{B n:Nat}{h a6:Nat->Option ay}{w:World}
theorem jS.TO(aw:jS σ B h w){id:Nat}{b:ay}(an:h id=some b){c o s:Nat}(aD:σ id=some (c,o,s)):c<w.heap.size:=by
 obtain⟨b5,dd,cn,db,cW,ec,h1,h2,_⟩:=aw.fC id b an
 grind
theorem TP(aw:jS σ B h w)(dP:B<=w.heap.size)(id:Nat)(eW:σ id=none)(ao bu dO:List Value)(t:TypeId)(ec:Nat×Nat)(aD:bH σ ao bu)
  (cH:ec.1<=ec.2/\∀i,i<bu.length+dO.length->(ec.1<=i&&i<ec.2)=false) (k:Nat) (a6:Nat->Option ay) (aE:∀i b,a6 i=some b->(i=id/\b=⟨ao,true⟩)\/(i≠id/\h i=some b)):
  lb B σ h id w (fun i=>if i=id then some (w.heap.size,0,bu.length+dO.length)else σ i) a6 (id+1)
   {w with heap:=w.heap.push (.cells (bu++dO).toArray t ec),drawn:=k}:=by
 let τ:cO:=fun i=>if i=id then some (w.heap.size,0,bu.length+dO.length)else σ i
 have AD:∀i x,σ i=some x->τ i=some x:=fun i x al=>by grind
 have tQ:∀i b,h i=some b->i≠id:=fun i b an e=>by
  obtain⟨c,o,s,_,_,_,h1,_⟩:=aw.fC i b an
  simp_all
 have ahE:τ id=some (w.heap.size,0,bu.length+dO.length):=if_pos rfl;have lz:∀i,i≠id->τ i=σ i:=fun i da=>if_neg da
 have hlen:=aD.length;refine⟨⟨?_,?_,?_⟩,by omega,?_,AD,rfl,rfl,rfl,by simp,?_,?_⟩;intro i b an;rcases aE i b an with⟨rfl,rfl⟩|⟨da,jl⟩
 refine⟨w.heap.size,0,_,(bu++dO).toArray,t,ec,ahE,by simp,by simp,by grind,?_,fun _=>cH⟩;have:((bu++dO).toArray.toList.drop 0).take ao.length=bu:=by grind
 simp only[this];exact aD.mono AD;obtain⟨c,o,s,db,cW,H2,h1,h2,aB,bk,cj,dh⟩:=aw.fC i b jl;have dy:c<w.heap.size:=(Array.getElem?_eq_some_iff.1 h2).1;refine⟨c,o,s,db,cW,H2,(lz i da).trans h1,?_,aB,bk,cj.mono AD,dh⟩
 grind
 intro i b an aM;rcases aE i b an with⟨rfl,rfl⟩|⟨da,jl⟩
 simp_all
 obtain⟨c,o,s,h1,h2⟩:=aw.own i b jl aM
 simp_all
 intro i j ib gf da aq bh aM c o s b5 dd cn h1 h2;have h1:τ i=some (c,o,s):=h1;have h2:τ j=some (b5,dd,cn):=h2;rcases aE i ib aq with⟨vZ,rfl⟩|⟨u3,fJ⟩
 rcases aE j gf bh with⟨AE,rfl⟩|⟨yT,oT⟩
 omega;rw[lz j yT]at h2;have dy:=aw.TO oT h2
 grind
 rw[lz i u3]at h1;rcases aE j gf bh with⟨AE,rfl⟩|⟨yT,oT⟩
 have dy:=aw.TO fJ h1
 grind
 rw[lz j yT]at h2;exact aw.la i j ib gf da fJ oT aM c o s b5 dd cn h1 h2
 grind
 grind
 rintro c ⟨i,b,o,s,an,aM,gx⟩ dy;have gx:τ i=some (c,o,s):=gx;rcases aE i b an with⟨vZ,rfl⟩|⟨da,jl⟩
 simp_all
 exact⟨i,b,o,s,jl,aM,(lz i da).symm.trans gx⟩
theorem ahF(aw:jS σ B h w)(id off:Nat)(b:ay)(an:h id=some b)(aM:b.wr=true)(vs mQ:List Value)(hv:bH σ vs mQ)(hlen:off+vs.length<=b.cells.length)
  (c o s:Nat) (db:Array Value) (cW:TypeId) (ec:Nat×Nat) (h1:σ id=some (c,o,s)) (h2:w.heap[c]?=some (.cells db cW ec))
  (a6:Nat->Option ay) (aE:∀i c0,a6 i=some c0->(i=id/\c0=⟨b.cells.take off++vs++b.cells.drop (off+vs.length),b.wr⟩)\/(i≠id/\h i=some c0)):
  lb B σ h n w σ a6 n (w.setRow c (db.toList.take (o+off)++mQ++db.toList.drop (o+off+mQ.length)).toArray):=by
 have TQ:=hv.length;obtain⟨b5,dd,cn,se,TR,H2,bb,bt,dZ,iX,h0,jm⟩:=aw.fC id b an;rw[h1]at bb;cases bb;rw[h2]at bt;cases bt;have dy:c<w.heap.size:=(Array.getElem?_eq_some_iff.1 h2).1;have ey:∀j gf,j≠id->h j=some gf->∀b5 dd cn,σ j=some (b5,dd,cn)->b5≠c:=fun j gf da bh b5 dd cn gx e=>aw.la id j b gf (Ne.symm da) an bh aM c o s b5 dd cn h1 gx e.symm
 refine⟨⟨?_,?_,?_⟩,Nat.le_refl _,fun _ _=>rfl,fun _ _ h=>h,rfl,rfl,rfl,by simp,?_,?_⟩;intro i c0 jl;rcases aE i c0 jl with⟨rfl,rfl⟩|⟨da,p6⟩
 refine⟨c,o,s,_,cW,ec,h1,setRow_heap w c db _ cW ec h2,?_,?_,?_,jm⟩
 grind
 grind
 have AF:(b.cells.take off++vs++b.cells.drop (off+vs.length)).length=b.cells.length:=by grind
 simp only[AF];have E9:((db.toList.take (o+off)++mQ++db.toList.drop (o+off+mQ.length)).drop o).take b.cells.length=
   (((db.toList.drop o).take b.cells.length).take off++mQ++((db.toList.drop o).take b.cells.length).drop (off+mQ.length)):=by
  apply ext_getElem?;intro k;simp only[List.getElem?_take,List.getElem?_drop,List.getElem?_append,length_append,length_take,length_drop,Array.length_toList];have c1:min (o+off) db.size=o+off:=by omega
  have c2:min b.cells.length (db.size-o)=b.cells.length:=by omega
  have a3:min off b.cells.length=off:=by omega
  grind
 have p4:((db.toList.take (o+off)++mQ++db.toList.drop (o+off+mQ.length)).toArray.toList.drop o).take b.cells.length=
   (((db.toList.drop o).take b.cells.length).take off++mQ++((db.toList.drop o).take b.cells.length).drop (off+mQ.length)):=E9
 rw[p4,<- TQ];exact((h0.take off).append hv).append (h0.drop (off+vs.length));obtain⟨dR,dr,cP,AG,AH,xi,b7,ca,g3,g4,g5,l2⟩:=aw.fC i c0 p6;refine⟨dR,dr,cP,AG,AH,xi,b7,?_,g3,g4,g5,l2⟩
 grind[setRow_other]
 intro i c0 jl u4;rcases aE i c0 jl with⟨rfl,rfl⟩|⟨da,p6⟩
 exact aw.own i b an aM;exact aw.own i c0 p6 u4;intro i j ib gf da aq bh AI;have ahG:∃H3,h i=some H3/\H3.wr=ib.wr:=by grind
 have ahH:∃Mw,h j=some Mw:=by grind
 obtain⟨H3,fJ,CF⟩:=ahG;obtain⟨Mw,oT⟩:=ahH;exact aw.la i j H3 Mw da fJ oT (CF.trans AI);intro k ag Fa;refine setRow_other w c k _ ?_;intro e;subst e;exact Fa ⟨id,b,o,s,an,aM,h1⟩;rintro k ⟨i,c0,dd,cn,jl,u4,gx⟩ _;rcases aE i c0 jl with⟨rfl,rfl⟩|⟨da,p6⟩
 exact⟨i,b,dd,cn,an,aM,gx⟩;exact⟨i,c0,dd,cn,p6,u4,gx⟩
theorem ahI(aw:jS σ B h w)(id:Nat)(b:ay)(an:h id=some b)(aM:b.wr=true)(c o s:Nat)(db:Array Value)(cW:TypeId)(ec:Nat×Nat)(h1:σ id=some (c,o,s))(h2:w.heap[c]?=some (.cells db cW ec)):
  lb B σ h n w σ h n (w.freeze {block:=c,off:=db.size} 1):=by
 obtain⟨b5,dd,cn,se,TR,H2,bb,bt,dZ,iX,h0,jm⟩:=aw.fC id b an;rw[h1]at bb;cases bb;rw[h2]at bt;cases bt;have dy:c<w.heap.size:=(Array.getElem?_eq_some_iff.1 h2).1
 let dH:=w.freeze {block:=c,off:=db.size} 1
 have da:∀i,i≠c->dH.heap[i]?=w.heap[i]?:=fun i aq=>by
  show(World.freeze w {block:=c,off:=db.size} 1).heap[i]?=_
  simp_all[World.freeze,Array.getElem?_modify,Ne.symm]
 have ahJ:dH.heap[c]?=some (.cells db cW (if ec.1==ec.2 then(db.size,db.size+1)else(min ec.1 db.size,max ec.2 (db.size+1)))):=by
  show(World.freeze w {block:=c,off:=db.size} 1).heap[c]?=_;unfold World.freeze
  grind
 have Mx:dH.heap.size=w.heap.size:=by
  show(World.freeze w {block:=c,off:=db.size} 1).heap.size=_
  simp_all[World.freeze]
 have My:dH.os=w.os/\dH.tape=w.tape/\dH.output=w.output:=by
  show(World.freeze w {block:=c,off:=db.size} 1).os=_/\(World.freeze w {block:=c,off:=db.size} 1).tape=_/\(World.freeze w {block:=c,off:=db.size} 1).output=_
  simp_all[World.freeze]
 have ey:∀j gf,j≠id->h j=some gf->∀b5 dd cn,σ j=some (b5,dd,cn)->b5≠c:=fun j gf da bh b5 dd cn gx e=>aw.la id j b gf (Ne.symm da) an bh aM c o s b5 dd cn h1 gx e.symm
 refine⟨⟨?_,aw.own,aw.la⟩,Nat.le_refl _,fun _ _=>rfl,fun _ _ h=>h,My.1,My.2.1,My.2.2,Nat.le_of_eq Mx.symm,?_,fun _ h _=>h⟩;intro i c0 jl;by_cases aq:i=id;subst aq;rw[an]at jl;cases jl;refine⟨c,o,s,db,cW,_,h1,ahJ,dZ,iX,h0,fun _=>?_⟩;obtain⟨gM,gN⟩:=jm aM;obtain⟨fc,aq⟩:=ec;simp only at gM gN⊢;by_cases he:fc=aq
 grind
 have sf:s<=fc:=by grind
 grind
 obtain⟨dR,dr,cP,AG,AH,xi,b7,ca,g3,g4,g5,l2⟩:=aw.fC i c0 jl;exact⟨dR,dr,cP,AG,AH,xi,b7,by grind,g3,g4,g5,l2⟩;intro k ag Fa;refine da k fun e=>Fa ?_
 subst e;exact⟨id,b,o,s,an,aM,h1⟩
end
end Go.Ab
namespace Go.Ab
open Go
theorem p7(m n:Nat):Nat.blt m n=decide (m<n):=by grind[Nat.blt,lR]
theorem H4(oO hY:Nat)(aM:hY=2*oO)(bS:0<oO)(n:Int):
  tF oO hY n=if n%(hY:Int)<oO then n%(hY:Int)else n%(hY:Int)-hY:=by
 cases n with
 | ofNat m=>
  simp only[tF,Int.ofNat_eq_natCast];have e:((m:Int)%(hY:Int))=((m%hY:Nat):Int):=by omega
  rw[e];cases h:Nat.blt m oO with
  | true=>
   have:m<oO:=by simp_all
   have hm:m%hY=m:=mod_eq_of_lt (by omega)
   simp_all
  | false=>
   cases h2:Nat.blt (m%hY) oO with
   | true=>
    have:m%hY<oO:=by simp_all
    grind
   | false=>
    have aB:¬m%hY<oO:=by simp_all[p7]
    have bk:m%hY<hY:=mod_lt _ (by omega)
    grind
 | negSucc m=>
  simp only[tF];have e:(Int.negSucc m%(hY:Int))=((hY-1-m%hY:Nat):Int):=by have bk:m%hY<hY:=mod_lt _ (by omega);rw[Int.negSucc_emod m (by omega)];omega
  rw[e];have bk:m%hY<hY:=mod_lt _ (by omega);cases h:Nat.blt m oO with
  | true=>
   have:m<oO:=by simp_all
   have hm:m%hY=m:=mod_eq_of_lt (by omega)
   grind
  | false=>
   cases h2:Nat.blt (m%hY) oO with
   | true=>
    have:m%hY<oO:=by simp_all
    grind
   | false=>
    have aB:¬m%hY<oO:=by simp_all[p7]
    grind
theorem TS(hY:Nat)(bS:0<hY)(n:Int):r6 hY n=n%(hY:Int):=by
 cases n with
 | ofNat m=>rfl
 | negSucc m=>simp only[r6,Int.ofNat_eq_natCast];have bk:m%hY<hY:=mod_lt _ bS;rw[Int.negSucc_emod m (by omega)];omega
theorem tR(k:IntKind)(n:Int):iJ k n=k.wrap n:=by
 cases k<;>simp only[iJ,IntKind.wrap,IntKind.bits,IntKind.signed]
 ·grind[H4]
 ·grind[H4]
 ·grind[H4]
 ·grind[H4]
 all_goals rw[TS _ (by omega)];simp
theorem H5(k:IntKind)(n:Int):n0 k n=(BitVec.ofInt k.bits n).toNat:=by rw[BitVec.toNat_ofInt];cases k<;>simp only[n0,IntKind.bits]<;>rw[TS _ (by omega)]<;>rfl
theorem TT{k eE:IntKind}(h:tE k eE=true):k=eE:=by cases k<;>cases eE<;>first|rfl|cases h
section
variable{P:Program}{σ:cO}
theorem ch.n8{k:IntKind}{n:Int}{v:Value}(h:ch σ (.int k n) v):v=.int k n:=by cases h;rfl
theorem ch.H6{b:Bool}{v:Value}(h:ch σ (.bool b) v):v=.bool b:=by cases h;rfl
theorem ch.yU{s:ByteArray}{v:Value}(h:ch σ (.string s) v):v=.string s:=by cases h;rfl
theorem ch.CG{x:Array Value}{v:Value}(h:ch σ (.agg x) v):∃bK,v=.agg bK/\bH σ x.toList bK.toList:=by cases h;simp_all
theorem ch.ahK{x:Array Value}{v:Value}(h:ch σ (.tuple x) v):∃bK,v=.tuple bK/\bH σ x.toList bK.toList:=by cases h;simp_all
theorem ch.Fb{id off:Nat}{ct:Option Nat}{v:Value}(h:ch σ (.pointer (some ⟨id,off,ct⟩)) v):ct=none/\∃c o s,v=.pointer (some ⟨c,o+off,none⟩)/\σ id=some (c,o,s):=by cases h;simp_all
theorem ch.bool{b:Bool}:ch σ (.bool b) (.bool b):=bH.bool b .nil
theorem ch.int{k:IntKind}{n:Int}:ch σ (.int k n) (.int k n):=bH.int k n .nil
theorem ch.string{s:ByteArray}:ch σ (.string s) (.string s):=bH.string s .nil
theorem ch.db{l aF:List Value}(h:bH σ l aF):ch σ (.agg l.toArray) (.agg aF.toArray):=.agg _ _ (by omega) .nil
theorem ahL(op:BinOp)(k:IntKind)(a b:Int)(t:TypeId)(pr ps:Operand){v:Value}(aq:Cp op=none)(h:HH op k a b=some v)(w:World):
  (do eqGuard op t pr ps (.int k a) (.int k b);binOp op t (.int k a) (.int k b)).run P w=.ok v w/\ch σ v v:=by
 have hg:(eqGuard op t pr ps (.int k a) (.int k b)).run P w=.ok () w:=by cases op<;>rfl
 rw[Sem.run_bind,hg,Result.andThen_ok];cases op<;>simp only[HH]at h<;>try cases h
 case add=>exact⟨by simp[binOp,Op.intArith,tR],.int⟩
 case sub=>exact⟨by simp[binOp,Op.intArith,tR],.int⟩
 case mul=>exact⟨by simp[binOp,Op.intArith,tR],.int⟩
 case quo=>
  rw[rA]at h;by_cases an:b=0
  ·simp_all
  ·simp[an]at h;subst h;exact⟨by simp[binOp,Op.intDiv,an,tR],.int⟩
 case rem=>
  rw[rA]at h;by_cases an:b=0
  ·simp_all
  ·simp[an]at h;subst h;exact⟨by simp[binOp,Op.intDiv,an],.int⟩
 case and=>exact⟨by simp_all[binOp,Op.intBits,tR,H5],.int⟩
 case or=>exact⟨by simp_all[binOp,Op.intBits,tR,H5],.int⟩
 case xor=>exact⟨by simp_all[binOp,Op.intBits,tR,H5],.int⟩
 case eql=>exact⟨by simp[binOp,Op.intCmp,rA];rfl,.bool⟩
 case neq=>exact⟨by simp[binOp,Op.intCmp,rA];rfl,.bool⟩
 case lss=>exact⟨by simp[binOp,Op.intCmp,k9];grind,.bool⟩
 case leq=>exact⟨by simp[binOp,Op.intCmp,k9],.bool⟩
 case gtr=>exact⟨by simp[binOp,Op.intCmp,k9];grind,.bool⟩
 case geq=>exact⟨by simp[binOp,Op.intCmp,k9],.bool⟩
theorem ahM(a b:ByteArray):(⟨(hP a.data.toList b.data.toList).toArray⟩:ByteArray)=a++b:=by rw[iv];rfl
theorem ahN(op:BinOp)(a b:ByteArray)(t:TypeId)(pr ps:Operand){v:Value}(aq:Cp op=none)(h:EP op a.data.toList b.data.toList=some v)(w:World):
  (do eqGuard op t pr ps (.string a) (.string b);binOp op t (.string a) (.string b)).run P w=.ok v w/\ch σ v v:=by
 have hg:(eqGuard op t pr ps (.string a) (.string b)).run P w=.ok () w:=by cases op<;>rfl
 rw[Sem.run_bind,hg,Result.andThen_ok];have bb:a.toList=a.data.toList:=ByteArray.toList_eq a;have bt:b.toList=b.data.toList:=ByteArray.toList_eq b;cases op<;>simp only[EP]at h<;>try cases h
 case add=>
  split at h
  ·rename_i aE;cases h;rw[ahM];rw[gE,gE,lR]at aE;have aE:=of_decide_eq_true aE;have di:a.data.toList.length=a.size:=by rfl
   have cP:b.data.toList.length=b.size:=by rfl
   have:¬(((a.size+b.size:Nat):Int)>IntKind.i64.max):=by
    have e:IntKind.i64.max=9223372036854775807:=by decide
    omega
   refine⟨?_,.string⟩;show(Op.stringOp .add a b).run P w=_
   simp_all[Op.stringOp]
  ·cases h
 case eql=>exact⟨by simp_all[binOp,Op.stringOp],.bool⟩
 case neq=>exact⟨by simp_all[binOp,Op.stringOp],.bool⟩
 case lss=>exact⟨by simp_all[binOp,Op.stringOp],.bool⟩
 case leq=>exact⟨by simp_all[binOp,Op.stringOp],.bool⟩
 case gtr=>exact⟨by simp_all[binOp,Op.stringOp],.bool⟩
 case geq=>exact⟨by simp_all[binOp,Op.stringOp],.bool⟩
theorem Mz{t:TypeId}{b:Bool}(h:p2 P t=some b)(w:World):(isAgg t).run P w=.ok b w:=by
 unfold p2 at h;cases bc:P.underlying t with
 | none=>simp_all
 | some d=>rw[bc]at h;unfold isAgg;rw[Sem.run_bind,run_underlying bc w];cases d<;>simp at h<;>subst h<;>rfl
theorem n9{t:TypeId}{n:Nat}(h:gD P t=some n)(w:World):(sizeOf t).run P w=.ok n w:=by
 unfold gD at h;cases aq:P.info? t with
 | none=>simp_all
 | some i=>simp_all[sizeOf,typeInfo]
theorem s6{t:TypeId}{z:Value}(h:hX P t=some z)(w:World):(zeroValue t).run P w=.ok z w/\Cn z=true:=by
 unfold hX at h;cases aq:P.info? t with
 | none=>simp_all
 | some i=>
  rw[aq]at h;cases dQ:i.zero with
  | none=>simp_all
  | some MA=>
   simp only[dQ]at h;cases aD:Cn MA with
   | false=>simp_all
   | true=>simp_all[zeroValue,typeInfo]
theorem Fc{t:TypeId}{ao:List Value}{bu:Array Value}{off:Nat}{v:Value}(aD:bH σ ao bu.toList)(h:sY P t ao off=some v)(w:World):
  ∃aH,(part t bu off).run P w=.ok aH w/\ch σ v aH:=by
 unfold sY at h;cases bp:p2 P t with
 | none=>simp_all
 | some b=>
  cases aw:gD P t with
  | none=>simp_all
  | some n=>
   unfold part;rw[Sem.run_bind,Mz bp w,Result.andThen_ok];cases b with
   | true=>
    simp only[bp,aw]at h;cases h;refine⟨.agg (bu.extract off (off+n)),?_,?_⟩;simp[n9 aw w];rw[mj,nh];refine .agg _ _ ?_ .nil;have:(bu.extract off (off+n)).toList=(bu.toList.drop off).take n:=by simp_all
    rw[this];simpa using(aD.drop off).take n
   | false=>
    simp only[bp,aw,u1]at h;obtain⟨aH,h1,h2⟩:=aD.get off v h
    simp_all
theorem TU{d D:Nat}{ak aX:List Value}{v7 v8:Array Value}(al:bH σ ak v7.toList)(a8:bH σ aX v8.toList)
  (a7:∀t x y b bK eG,nG P d t x y=some b->ch σ x bK->ch σ y eG->∀w,(Op.equalIn D t bK eG).run P w=.ok b w):
  ∀(bj:List Field) (b:Bool),eqFields P (nG P d) ak aX bj=some b->∀w,(Op.eqFields D v7 v8 bj).run P w=.ok b w
 | [],b,h,w=>by cases h;rfl
 | f::bj,b,h,w=>by
  unfold eqFields at h;split at h;cases h;rename_i aR;have H7:f.name≠ "_" := by simpa using aR
  cases bp:sY P f.type ak f.offset with
  | none=>simp[bp]at h
  | some a=>
   cases an:sY P f.type aX f.offset with
   | none=>simp[bp,an]at h
   | some c=>
    simp only[bp,an]at h;obtain⟨cq,CH,va⟩:=Fc al bp w;obtain⟨b5,cF,tS⟩:=Fc a8 an w;cases cf:nG P d f.type a c with
    | none=>simp[cf]at h
    | some r=>
     have U:=a7 _ _ _ _ _ _ cf va tS w;simp only[Op.eqFields,H7,ne_eq,not_false_eq_true,if_true,Sem.run_bind,CH,cF,U,Result.andThen_ok];cases r with
     | false=>simp[cf]at h;subst h;rfl
     | true=>simp only[cf]at h;simpa using TU al a8 a7 bj b h w
theorem TV{d D:Nat}{e:TypeId}{n:Nat}(aR:P.cellsOf e=n){ak aX:List Value}{v7 v8:Array Value}(al:bH σ ak v7.toList)(a8:bH σ aX v8.toList)
  (a7:∀t x y b bK eG,nG P d t x y=some b->ch σ x bK->ch σ y eG->∀w,(Op.equalIn D t bK eG).run P w=.ok b w):
  ∀(k i:Nat) (b:Bool),Co P (nG P d e) e n ak aX k i=some b->∀w,(Op.eqItems D e (P.cellsOf e) v7 v8 (List.range' i k)).run P w=.ok b w
 | 0,i,b,h,w=>by cases h;rfl
 | k+1,i,b,h,w=>by
  unfold Co at h;cases bp:sY P e ak (i*n)with
  | none=>simp[bp]at h
  | some a=>
   cases an:sY P e aX (i*n)with
   | none=>simp[bp,an]at h
   | some c=>
    simp only[bp,an]at h;obtain⟨cq,CH,va⟩:=Fc al bp w;obtain⟨b5,cF,tS⟩:=Fc a8 an w;cases cf:nG P d e a c with
    | none=>simp[cf]at h
    | some r=>
     have U:=a7 _ _ _ _ _ _ cf va tS w;simp only[List.range'_succ,Op.eqItems,aR,Sem.run_bind,CH,cF,U,Result.andThen_ok];cases r with
     | false=>simp[cf]at h;subst h;rfl
     | true=>simp only[cf]at h;have:=TV aR al a8 a7 k (i+1) b h w;rw[aR]at this;simpa using this
theorem H8:∀(d:Nat) (t:TypeId) (x y:Value) (b:Bool) (bK eG:Value),nG P d t x y=some b->ch σ x bK->ch σ y eG->∀(D:Nat) (w:World),d<=D->(Op.equalIn D t bK eG).run P w=.ok b w
 | 0,t,x,y,b,bK,eG,h,_,_,D,w,_=>by cases h
 | d+1,t,x,y,b,bK,eG,h,al,a8,D,w,lf=>by
  obtain⟨D,rfl⟩:∃ahO,D=ahO+1:=⟨D-1,by omega⟩;unfold nG at h;cases bc:P.underlying t with
  | none=>simp[bc]at h
  | some iL=>
   simp only[bc]at h;split at h
   case h_1 jn=>cases jn;cases h;rw[al.H6,a8.H6];exact run_equalIn_bool w D t _ _ bc
   case h_2 jn=>
    cases jn;rw[al.n8,a8.n8];split at h
    ·rename_i ag;cases h;rw[TT ag,run_equalIn_int w D t _ _ _ _ bc,rA];rfl
    ·cases h
   case h_3 jn=>cases jn;cases h;rw[al.yU,a8.yU,run_equalIn_string w D t _ _ bc,ByteArray.toList_eq,ByteArray.toList_eq]
   case h_4 jn=>cases jn;cases h;cases al;cases a8<;>simp[Op.equalIn,run_underlying bc]
   case h_5 jn=>cases jn;cases h;cases al;cases a8;simp[Op.equalIn,run_underlying bc]
   case h_6 jn=>cases jn;cases h;cases al;cases a8;simp[Op.equalIn,run_underlying bc]
   case h_7 jn=>cases jn;cases h;cases al;cases a8;simp[Op.equalIn,run_underlying bc]
   case h_8 jn=>cases jn;cases h;cases al;cases a8;simp[Op.equalIn,run_underlying bc]
   case h_9 jn=>cases jn;cases h;cases al;cases a8<;>simp[Op.equalIn,run_underlying bc]
   case h_10 jn=>cases jn;cases h;cases a8;cases al<;>simp[Op.equalIn,run_underlying bc]
   case h_11 jn=>cases jn;cases h;cases al;cases a8;simp[Op.equalIn,run_underlying bc]
   case h_12 jn=>cases jn;cases h;cases al;cases a8<;>simp[Op.equalIn,run_underlying bc]
   case h_13 jn=>cases jn;cases h;cases al<;>cases a8<;>simp[Op.equalIn,run_underlying bc]
   case h_14 jn=>
    rename_i mL ak aX;cases jn;obtain⟨v7,rfl,MB⟩:=al.CG;obtain⟨v8,rfl,MC⟩:=a8.CG;split at h
    ·cases h
    ·rename_i hb;have hf:P.fieldsOf t=mL:=by simp[Program.fieldsOf,bc]
     rw[run_equalIn_struct w D t v7 v8 (by rw[hf];exact bc) (by simpa using hb),hf];exact TU MB MC (fun t x y b bK eG h1 h2 aB w=>H8 d t x y b bK eG h1 h2 aB D w (by omega)) _ _ h w
   case h_15 jn=>
    rename_i len e ak aX;cases jn;obtain⟨v7,rfl,MB⟩:=al.CG;obtain⟨v8,rfl,MC⟩:=a8.CG;cases aw:gD P e with
    | none=>simp[aw]at h
    | some n=>
     simp only[aw]at h;cases aq:P.info? e with
     | none=>simp[gD,aq]at aw
     | some i=>
      have aR:P.cellsOf e=n:=by simp[gD,aq]at aw;simp[Program.cellsOf,aq,aw]
      rw[run_equalIn_array w D v7 v8 bc aq,range_eq_range'];exact TV aR MB MC (fun t x y b bK eG h1 h2 aB w=>H8 d t x y b bK eG h1 h2 aB D w (by omega)) _ _ _ h w
   case h_16=>cases h
end
end Go.Ab
namespace Go.Ab
open Go
section
variable{P:Program}{σ:cO}
theorem ahP(l:Bool)(k eE:IntKind)(a b:Int)(op:BinOp)(jo:Cp op=some l)(t:TypeId)(pr ps:Operand){v:Value}(h:Ah l k a b=some v)(w:World):
  (do eqGuard op t pr ps (.int k a) (.int eE b);binOp op t (.int k a) (.int eE b)).run P w=.ok v w/\ch σ v v:=by
 unfold Ah at h;split at h;cases h;rename_i an;have bt:∀n:Nat,(2:Int)^n=((2^n:Nat):Int):=fun n=>by simp
 cases op<;>cases jo;simp at h;subst h;refine⟨?_,.int⟩;show(Op.shift .shl k a eE b).run P w=_
 simp_all[Op.shift,if_neg,tR]
 simp at h;subst h;refine⟨?_,.int⟩;show(Op.shift .shr k a eE b).run P w=_
 simp_all[Op.shift,if_neg]
theorem TW(op:BinOp)(t:TypeId)(pr ps:Operand)(x y bK eG:Value)(hg:uT P t (uS pr||uS ps) x y=true)(al:ch σ x bK)(a8:ch σ y eG)(w:World):
  (eqGuard op t pr ps bK eG).run P w=.ok () w:=by
 have key:∀(p:Prop) [Decidable p] (m:Sem Unit),m.run P w=.ok () w->(if p then(pure ():Sem Unit)else m).run P w=.ok () w:=fun p _ m hm=>by simp_all
 unfold eqGuard;simp only[Sem.run_ite];cases al
 case nilIface=>
  cases a8
  case nilIface=>simp only[uT]at hg;cases pr<;>cases ps<;>simp[uS]at hg<;>cases op<;>simp
  all_goals cases op<;>simp
 case agg ak v7 _ _=>
  cases a8
  case agg aX v8 _ _=>simp_all[uT]
  all_goals cases op<;>simp
 all_goals cases op<;>simp
def MD(bK:Value):Bool:=match bK with|.int _ _=>false|.float _ _=>false|.complex _ _ _=>false|.string _=>false|_=>true
theorem ahQ(t:TypeId)(bK eG:Value)(aR:MD bK=true):
  binOp .eql t bK eG=(do pure (.bool (<- Op.equal t bK eG)))/\binOp .neq t bK eG=(do pure (.bool (!(<- Op.equal t bK eG)))):=by
 cases bK<;>first|(simp[MD]at aR;done)|(cases eG<;>exact⟨rfl,rfl⟩)
theorem ahR(op:BinOp)(t:TypeId)(pr ps:Operand)(x y bK eG:Value){v:Value}(h:Mh P op t (uS pr||uS ps) x y=some v)(al:ch σ x bK)(a8:ch σ y eG)
  (aR:MD bK=true) (w:World):
  ∃aH,(do eqGuard op t pr ps bK eG;binOp op t bK eG).run P w=.ok aH w/\ch σ v aH:=by
 obtain⟨h1,h2⟩:=ahQ t bK eG aR;cases op<;>simp only[Mh]at h<;>try cases h
 case eql=>
  split at h
  ·rename_i hg;cases cf:nG P 100 t x y with
   | none=>simp_all
   | some b=>
    simp[cf]at h;subst h;refine⟨.bool b,?_,.bool⟩;have U:=H8 100 t x y b bK eG cf al a8 10000 w (by omega)
    grind[Sem.run_bind,TW,Result.andThen_ok,Op.equal,Op.maxDepth,Sem.run_pure]
  ·cases h
 case neq=>
  split at h
  ·rename_i hg;cases cf:nG P 100 t x y with
   | none=>simp_all
   | some b=>
    simp[cf]at h;subst h;refine⟨.bool (!b),?_,.bool⟩;have U:=H8 100 t x y b bK eG cf al a8 10000 w (by omega)
    grind[Sem.run_bind,TW,Result.andThen_ok,Op.equal,Op.maxDepth,Sem.run_pure]
  ·cases h
theorem ahS(op:BinOp)(t:TypeId)(pr ps:Operand)(x y bK eG:Value){v:Value}(h:(au P op t (uS pr||uS ps)).f x y=some v)(al:ch σ x bK)(a8:ch σ y eG)(w:World):
  ∃aH,(do eqGuard op t pr ps bK eG;binOp op t bK eG).run P w=.ok aH w/\ch σ v aH:=by
 unfold au at h;cases aw:Cp op with
 | some l=>
  simp only[aw]at h;cases x<;>simp only at h<;>try cases h
  rename_i k a;cases y<;>simp only at h<;>try cases h
  rename_i eE b;rw[al.n8,a8.n8]
  grind[ahP]
 | none=>
  simp only[aw]at h;cases x
  case int k a=>
   simp only at h;cases y<;>simp only at h<;>try cases h
   rename_i eE b;split at h
   ·rename_i ag;rw[al.n8,a8.n8,<- TT ag]
    grind[ahL]
   ·cases h
  case string a=>
   simp only at h;cases y<;>simp only at h<;>try cases h
   rename_i b;rw[al.yU,a8.yU]
   grind[ahN]
  case float=>cases h
  case complex=>cases h
  all_goals
   refine ahR op t pr ps _ y bK eG h al a8 ?_ w;cases al<;>rfl
theorem ahT(op:UnOp)(x bK:Value){v:Value}(h:hQ op x=some v)(al:ch σ x bK)(w:World):∃aH,(Op.unary op bK).run P w=.ok aH w/\ch σ v aH:=by
 unfold hQ at h;cases x<;>simp only at h<;>try cases h
 case int k n=>
  rw[al.n8];cases op<;>simp only at h<;>cases h
  ·exact⟨_,by simp[Op.unary,Op.intArith,tR],.int⟩
  ·refine⟨_,?_,.int⟩
   simp_all[Op.unary,Op.intBits,tR,H5]
 case bool b=>rw[al.H6];cases op<;>simp only at h<;>cases h;exact⟨_,rfl,.bool⟩
def gy(P:Program)(B:Nat)(s:Sem Value)(w:World)(σ:cO)(h:Nat->Option ay)(H:ar)(v:Value)(aa:ar):Prop:=
 ∃aH aV τ,s.run P w=.ok aH aV/\ch τ v aH/\lb B σ h H.next w τ (iW h H aa) aa.next aV
theorem gy.pure{B:Nat}{s:Sem Value}{w:World}{h:Nat->Option ay}{H:ar}{v:Value}(aw:jS σ B h w)(U:∃aH,s.run P w=.ok aH w/\ch σ v aH):gy P B s w σ h H v H:=by obtain⟨aH,h1,h2⟩:=U;exact⟨aH,w,σ,h1,h2,by grind[AB,lb.refl]⟩
theorem ahU{h:Nat->Option ay}{H:ar}{ao:List Value}{w:World}{B:Nat}(aw:jS σ B h w)(eW:σ H.next=none)(i:Nat)(b:ay)
  (bc:iW h H ⟨H.t.set H.next (some ⟨ao,true⟩),Nat.succ H.next,H.dB,H.dI⟩ i=some b):(i=H.next/\b=⟨ao,true⟩)\/(i≠H.next/\h i=some b):=by
 have aR:h H.next=none:=by
  cases hh:h H.next with
  | none=>rfl
  | some b=>obtain⟨c,o,s,_,_,_,h1,_⟩:=aw.fC _ _ hh;simp_all
 unfold iW at bc;by_cases aq:i=H.next;subst aq;split at bc
 simp_all
 rcases Tr.CD _ _ _ _ _ bc with⟨_,h2⟩|⟨h1,_⟩
 simp_all
 omega
 simp_all[ar.get,Tr.ly]
theorem TX{B:Nat}{h:Nat->Option ay}{H:ar}{w:World}(aw:jS σ B h w)(dP:B<=w.heap.size)(eW:σ H.next=none)(ao bu dO:List Value)(t:TypeId)(ec:Nat×Nat)(aD:bH σ ao bu)
  (cH:ec.1<=ec.2/\∀i,i<bu.length+dO.length->(ec.1<=i&&i<ec.2)=false) (k:Nat):
  ∃ τ,τ H.next=some (w.heap.size,0,bu.length+dO.length)/\lb B σ h H.next w τ (iW h H ⟨H.t.set H.next (some ⟨ao,true⟩),Nat.succ H.next,H.dB,H.dI⟩) (H.next+1)
   {w with heap:=w.heap.push (.cells (bu++dO).toArray t ec),drawn:=k}:=
 ⟨_,if_pos rfl,TP aw dP H.next eW ao bu dO t ec aD cH k _ fun i b bc=>ahU aw eW i b bc⟩
theorem TY{B:Nat}{h:Nat->Option ay}{H aa:ar}{w:World}{v:Value}(aw:jS σ B h w)(dP:B<=w.heap.size)(eW:∀i,H.next<=i->i<aa.next->σ i=none)(ao:List Value)(u:Value)(t:TypeId)(aD:bH σ ao u.cells.toList)
  (aR:xc ao H=some (v,aa)):gy P B (do pure (.pointer (some (<- newVar t u)))) w σ h H v aa:=by
 simp only[xc,ar.cL]at aR;cases aR;obtain⟨τ,h1,h2⟩:=TX aw dP (eW H.next (Nat.le_refl _) (lt_succ_self _)) ao u.cells.toList [] t (0,0) aD (by simp) w.drawn;refine⟨.pointer (some ⟨w.heap.size,0,none⟩),_,τ,?_,.ai _ _ _ 0 _ h1 .nil,h2⟩;simp[newVar,newRow]
theorem TZ{τ:cO}{id len size c s:Nat}(h:τ id=some (c,0,s))(aw:0<size)(aE:len*size<=s):ch τ (.slice (some ⟨id,0,none⟩) len (2*size+1)) (.slice (some ⟨c,0,none⟩) len len):=
 .n7 id 0 len size c 0 s _ h aw (.inr ⟨by simp,by omega⟩) .nil
theorem CI{τ:cO}{id len size cap c s:Nat}(h:τ id=some (c,0,s))(aw:0<size)(aE:len<=cap)(aD:cap*size<=s):ch τ (.slice (some ⟨id,0,none⟩) len (2*size)) (.slice (some ⟨c,0,none⟩) len cap):=
 .nK id 0 len size cap c 0 s _ h aw aE (.inl ⟨by simp,by omega⟩) .nil
end
end Go.Ab
namespace Go.Ab
open Go
section
variable{P:Program}{σ:cO}{B:Nat}{h:Nat->Option ay}{H aa:ar}{w:World}
def Fe(h:Nat->Option ay)(H:ar)(id:Nat):Prop:=∀b,H.get id=some b->h id=some b
def tT(h:Nat->Option ay)(H:ar)(v:Value):Prop:=∀id,CA v=some id->Fe h H id
theorem AJ{id off n:Nat}{l:List Value}(aw:jS σ B h w)(bp:Fe h H id)(U:r5 H id off n=some l){c o s:Nat}(dU:σ id=some (c,o,s)):
  ∃aF,(loadCells ⟨c,o+off,none⟩ n).run P w=.ok aF.toArray w/\bH σ l aF/\l.length=n:=by
 rw[AA]at U;cases hg:H.get id with
 | none=>simp_all
 | some b=>
  rw[hg]at U;simp only[xb,mj,nh,gE]at U;cases cf:Nat.beq ((b.cells.drop off).take n).length n with
  | false=>simp_all
  | true=>
   rw[cf]at U;cases U;have aE:=eq_of_beq_eq_true cf;obtain⟨b5,dd,cn,db,cW,ec,bb,bt,dZ,iX,h0,_⟩:=aw.fC id b (bp b hg);rw[dU]at bb;cases bb;have xj:off+n<=b.cells.length\/n=0:=by grind
   refine⟨(db.toList.drop (o+off)).take n,?_,?_,aE⟩;rcases xj with xj|rfl
   grind[ahB]
   rfl;rcases xj with xj|rfl
   have:=(h0.drop off).take n
   grind[drop_take,drop_drop]
   simp;exact .nil
theorem ahV{id off:Nat}{v:Value}(aw:jS σ B h w)(bp:Fe h H id)(U:Ar H id off=some v){c o s:Nat}(dU:σ id=some (c,o,s)):
  ∃aH,(load ⟨c,o+off,none⟩).run P w=.ok aH w/\ch σ v aH:=by
 unfold Ar at U;cases hg:H.get id with
 | none=>simp_all
 | some b=>
  rw[hg]at U;simp only[u1]at U;obtain⟨b5,dd,cn,db,cW,ec,bb,bt,dZ,iX,h0,_⟩:=aw.fC id b (bp b hg);rw[dU]at bb;cases bb;obtain⟨aH,h1,h2⟩:=h0.get off v U
  simp_all[List.getElem?_take,World.cell?]
theorem T0{l aF:List Value}(hv:bH σ l aF)(h1:jM eA l=true):∀v∈aF,v.oneCell'=true:=by
 rw[j0]at h1;induction l generalizing aF with
 | nil=>rw[hv.qI];simp
 | cons x r a7=>
  obtain⟨bK,dx,rfl,al,U⟩:=hv.mP;rw[all_cons,Bool.and_eq_true]at h1;intro v hm;rcases mem_cons.1 hm with rfl|hm
  cases al<;>first|rfl|(exact absurd h1.1 (by simp[eA]))
  grind
theorem H9{id off:Nat}{vs mQ:List Value}(aw:jS σ B h w)(bp:Fe h H id)(U:uQ H id off vs=some aa)(hv:bH σ vs mQ){c o s:Nat}(dU:σ id=some (c,o,s))(n:Nat):
  ∃aV,(storeCells ⟨c,o+off,none⟩ mQ).run P w=.ok () aV/\lb B σ h n w σ (iW h H aa) n aV/\aa.next=H.next:=by
 rw[H0]at U;cases hg:H.get id with
 | none=>simp_all
 | some b=>
  rw[hg]at U;simp only at U;split at U;rename_i aD;cases U;simp only[Bool.and_eq_true,ar.nZ,gE,lR,decide_eq_true_eq]at aD;obtain⟨⟨aM,_⟩,hlen,h1⟩:=aD;obtain⟨b5,dd,cn,db,cW,ec,bb,bt,dZ,iX,h0,jm⟩:=aw.fC id b (bp b hg);rw[dU]at bb;cases bb;have TQ:=hv.length;have hb:=Mv (P:=P) c (o+off) cW ec mQ 0 db w bt (by omega) (T0 hv h1) (fun j bh=>(jm aM).2 j (by omega));refine⟨_,hb,?_,rfl⟩;refine ahF aw id off b (bp b hg) aM vs mQ hv hlen c o s db cW ec dU bt _ ?_;intro i c0 bc;simp only[iv,mj,nh,gE]at bc;unfold iW at bc;by_cases aq:i=id;subst aq;left;refine⟨rfl,?_⟩;have xk:(ar.set H i (some ⟨b.cells.take off++(vs++b.cells.drop (off+vs.length)),b.wr⟩)).get i=some ⟨b.cells.take off++(vs++b.cells.drop (off+vs.length)),b.wr⟩:=Tr.TN _ _ _ b hg;rw[xk]at bc;split at bc;rename_i he;rw[hg]at he;rw[bp b hg]at bc
  simp_all
  simp_all
  right;refine⟨aq,?_⟩;have xk:(ar.set H id (some ⟨b.cells.take off++(vs++b.cells.drop (off+vs.length)),b.wr⟩)).get i=H.get i:=Tr.ly _ _ _ _ aq
  simp_all
  grind
theorem T1{t:TypeId}{a cq v:Value}(aw:jS σ B h w)(bp:tT h H a)(hv:ch σ a cq)(U:(nI P t).f a H=some (v,aa)):
  aa=H/\∃aH,(Instr.loadAt t cq).run P w=.ok aH w/\ch σ v aH:=by
 unfold nI at U;cases cf:p2 P t with
 | none=>simp_all
 | some b=>
  cases dQ:gD P t with
  | none=>simp_all
  | some n=>
   have key:∀id off ct,a=.pointer (some ⟨id,off,ct⟩)->ct=none/\∃c o s,cq=.pointer (some ⟨c,o+off,none⟩)/\σ id=some (c,o,s):=by intro id off ct e;subst e;exact hv.Fb
   cases b with
   | true=>
    simp only[cf,dQ,bT]at U;cases a<;>simp only at U<;>try cases U
    rename_i a0;cases a0 with
    | none=>cases U
    | some a0=>
     obtain⟨id,off,ct⟩:=a0;obtain⟨rfl,c,o,s,rfl,dU⟩:=key id off ct rfl;simp only at U;cases aE:r5 H id off n with
     | none=>simp_all
     | some l=>
      rw[aE]at U;cases U;obtain⟨aF,h1,h2,_⟩:=AJ (P:=P) aw (bp id rfl) aE dU
      simp_all[ch.db,Instr.loadAt,Instr.sureAddr,loadVar,Mz,n9]
   | false=>
    simp only[cf,dQ,ax]at U;cases a<;>simp only at U<;>try cases U
    rename_i a0;cases a0 with
    | none=>cases U
    | some a0=>
     obtain⟨id,off,ct⟩:=a0;obtain⟨rfl,c,o,s,rfl,dU⟩:=key id off ct rfl;simp only at U;cases aE:Ar H id off with
     | none=>rw[aE]at U;cases U
     | some u=>
      rw[aE]at U;cases U;obtain⟨aH,h1,h2⟩:=ahV (P:=P) aw (bp id rfl) aE dU
      simp_all[Instr.loadAt,Instr.sureAddr,loadVar,Mz]
theorem ahW{t:TypeId}{n:Nat}(dQ:gD P t=some n){a cq x bK v:Value}(aw:jS σ B h w)(bp:tT h H a)(hv:ch σ a cq)(al:ch σ x bK)(U:bm n a x H=some (v,aa)):
  v=undef/\aa.next=H.next/\∃aV,(Instr.storeAt t cq bK).run P w=.ok () aV/\lb B σ h H.next w σ (iW h H aa) aa.next aV:=by
 unfold bm at U;cases a<;>simp only at U<;>try cases U
 rename_i a0;cases a0 with
 | none=>cases U
 | some a0=>
  obtain⟨id,off,ct⟩:=a0;obtain⟨rfl,c,o,s,rfl,dU⟩:=hv.Fb;simp only at U;split at U;rename_i cf;cases aM:uQ H id off (cZ x)with
  | none=>simp_all
  | some br=>
   rw[aM]at U;cases U;obtain⟨aV,h1,h2,aB⟩:=H9 (P:=P) aw (bp id rfl) aM al.cells dU H.next;refine⟨rfl,aB,aV,?_,by simp_all⟩;have hlen:bK.cells.size=n:=by
    have:=al.cells.length
    simp_all[gE]
   simp_all[Instr.storeAt,Instr.sureAddr,storeVar,n9]
  grind
theorem Ia(fH:Nat->Option (Nat×Nat)):∀(hy:List (Nat×Value)) (pt:List (Nat×Value)) (cells:List Value) (wa:Array Value) (l:List Value),
  bH σ cells wa.toList->hy.map (·.1)=pt.map (·.1)->bH σ (hy.map (·.2)) (pt.map (·.2))->uR fH cells hy=some l->
  ∃aF,Instr.fill fH wa pt=some aF/\bH σ l aF.toList
 | [],pt,cells,wa,l,aD,h1,_,hf=>by
  cases pt with
  | nil=>cases hf;exact⟨wa,rfl,aD⟩
  | cons _ _=>cases h1
 |(i,v)::dO,pt,cells,wa,l,aD,h1,h2,hf=>by
  cases pt with
  | nil=>cases h1
  | cons p ahX=>
   obtain⟨tN,aH⟩:=p;simp only[map_cons,List.cons.injEq]at h1;obtain⟨rfl,h1⟩:=h1;simp only[map_cons]at h2;obtain⟨T2,aCo,e,hv,U⟩:=h2.mP;cases e;unfold uR at hf;unfold Instr.fill;cases bS:fH i with
   | none=>simp_all
   | some os=>
    obtain⟨off,size⟩:=os;rw[bS]at hf;simp only at hf⊢;split at hf;rename_i cf;simp only[gE,lR,Bool.and_eq_true,decide_eq_true_eq]at cf;have bb:=eq_of_beq_eq_true cf.1;have p8:=hv.cells;have bt:=p8.length;have dZ:aH.cells.toList.length=aH.cells.size:=Array.length_toList;have iX:=aD.length;have h0:wa.toList.length=wa.size:=Array.length_toList;rw[if_neg (by grind)];refine Ia fH dO ahX _ _ l ?_ h1 U hf;rw[iv,iv,mj,nh,gE];have key:(aH.cells.zipIdx.foldl (fun ao (x:Value×Nat)=>ao.setIfInBounds (off+x.2) x.1) wa).toList=wa.toList.take off++(aH.cells.toList++wa.toList.drop (off+aH.cells.toList.length)):=by
     rw[<- Array.foldl_toList,Array.toList_zipIdx];have Ib:∀(vs:List Value) (k:Nat) (ao:Array Value),off+k+vs.length<=ao.size->
       ((vs.zipIdx k).foldl (fun ao (x:Value×Nat)=>ao.setIfInBounds (off+x.2) x.1) ao).toList=ao.toList.take (off+k)++vs++ao.toList.drop (off+k+vs.length):=by
      intro vs;induction vs with
      | nil=>simp_all
      | cons x r a7=>intro k ao ag;simp only[zipIdx_cons,foldl_cons];simp only[length_cons]at ag;have aq:=a7 (k+1) (ao.setIfInBounds (off+k) x) (by grind);rw[show off+(k+1)=off+k+1 by omega]at aq;rw[aq,Array.toList_setIfInBounds];have e:=list_seg_step ao.toList (off+k) x r (by omega);omega
     simp_all
    rw[key,<- bt];exact(aD.take off).append (p8.append (aD.drop (off+(cZ v).length)))
    grind
theorem ahY(l:List (Nat×Operand))(T:List Value):(tJ l T).map (·.1)=l.map (·.1)/\(tJ l T).map (·.2)=l.map fun p=>(dT p.2).g T:=by
 induction l with
 | nil=>exact⟨rfl,rfl⟩
 | cons p r a7=>obtain⟨i,o⟩:=p;exact⟨by show i::_=_;grind,by show(dT o).g T::_=_;grind⟩
theorem ahZ(mL:Array Field){f:Field->Option (Nat×Nat)}(hf:∀x∈mL.toList,∃n,f x=some (x.offset,n)/\∀w,(sizeOf x.type).run P w=.ok n w)(w:World):
  ∃Ic:Array (Nat×Nat),(mL.mapM fun(x:Field)=>(do pure (x.offset,<- sizeOf x.type):Sem (Nat×Nat))).run P w=.ok Ic w/\∀i:Nat,Ic[i]?=(mL.toList[i]?).bind f:=by
 have Ib:∀(l:List Field),(∀x∈l,∃n,f x=some (x.offset,n)/\∀w,(sizeOf x.type).run P w=.ok n w)->
   ∃bJ:List (Nat×Nat),(l.mapM fun(x:Field)=>(do pure (x.offset,<- sizeOf x.type):Sem (Nat×Nat))).run P w=.ok bJ w/\∀i:Nat,bJ[i]?=(l[i]?).bind f:=by
  intro l;induction l with
  | nil=>simp_all
  | cons x r a7=>
   intro al;obtain⟨n,h1,h2⟩:=al x (by simp);obtain⟨bJ,aB,bk⟩:=a7 fun y a8=>al y (by simp[a8])
   refine⟨(x.offset,n)::bJ,?_,?_⟩
   simp_all
   grind
 obtain⟨bJ,h1,h2⟩:=Ib mL.toList hf
 simp_all[Array.mapM_eq_mapM_toList]
theorem Ie{z:Value}:z.cells.toList=cZ z:=by cases z<;>rfl
theorem ah0{t:TypeId}{hy pt:List (Nat×Value)}{v:Value}(U:(c9 P t).f hy=some v)(h1:hy.map (·.1)=pt.map (·.1))(h2:bH σ (hy.map (·.2)) (pt.map (·.2)))(w:World):
  ∃aH,(Instr.build t pt.toArray).run P w=.ok aH w/\ch σ v aH:=by
 unfold c9 at U;cases dQ:hX P t with
 | none=>simp_all
 | some z=>
  obtain⟨lA,oU⟩:=s6 dQ w;have cQ:bH σ (cZ z) z.cells.toList:=(u2 oU).cells;rw[dQ]at U;simp only at U;cases bc:P.underlying t with
  | none=>simp_all
  | some iL=>
   rw[bc]at U;cases iL<;>simp only at U<;>try cases U
   case struct mL=>
    split at U
    ·rename_i hall;rw[j0,all_eq_true]at hall;simp only at U
     let f:Field->Option (Nat×Nat):=fun x=>(gD P x.type).map fun n=>(x.offset,n)
     obtain⟨Ic,cC,bw⟩:=ahZ (P:=P) mL (f:=f) (fun x al=>by
      have:=hall x al;cases aw:gD P x.type with
      | none=>simp_all
      | some n=>exact⟨n,by grind,fun w=>n9 aw w⟩) w
     have pv:(fun i:Nat=>Ic[i]?)=HG P mL.toList:=by grind[HG,u1]
     cases hf:uR (HG P mL.toList) (cZ z) hy with
     | none=>rw[hf]at U;cases U
     | some l=>
      rw[hf]at U;cases U;obtain⟨aF,gM,gN⟩:=Ia _ hy pt _ _ l cQ h1 h2 hf;rw[<- pv]at gM;refine⟨.agg aF,?_,.agg _ _ (by omega) .nil⟩
      simp_all[Instr.build,run_underlying]
    grind
   case array n e=>
    cases aw:gD P e with
    | none=>simp_all
    | some size=>
     rw[aw]at U;simp only at U;cases hf:uR (fun i=>some (i*size,size)) (cZ z) hy with
     | none=>rw[hf]at U;cases U
     | some l=>
      rw[hf]at U;cases U;obtain⟨aF,gM,gN⟩:=Ia _ hy pt _ _ l cQ h1 h2 hf;refine⟨.agg aF,?_,.agg _ _ (by omega) .nil⟩
      simp_all[Instr.build,run_underlying,n9]
theorem Ig(n:Nat)(z:Array Value):((Array.range (n*z.size)).map fun i=>z[i%z.size]!).toList=fR n z.toList:=by
 have key:∀(n:Nat),(List.range (n*z.size)).map (fun i=>z[i%z.size]!)=fR n z.toList:=by
  intro n;induction n with
  | zero=>simp[fR]
  | succ n a7=>
   rw[show fR (n+1) z.toList=z.toList++fR n z.toList by show hP _ _=_;rw[iv]];rw[succ_mul,Nat.add_comm,range_add,map_append,map_map]
   congr 1
   apply ext_getElem?
   grind[mod_eq_of_lt]
   simp_all[map_congr_left]
 simp_all
theorem bH.fR(n:Nat){l aF:List Value}(aE:bH σ l aF):bH σ (fR n l) (fR n aF):=by
 induction n with
 | zero=>exact .nil
 | succ n a7=>
  have e:∀m:List Value,Ab.fR (n+1) m=m++Ab.fR n m:=fun m=>by show hP _ _=_;rw[iv]
  rw[e,e];exact aE.append a7
theorem Ih(n:Nat)(l:List Value):(fR n l).length=n*l.length:=by
 induction n with
 | zero=>simp[fR]
 | succ n a7=>grind[fR,iv]
end
end Go.Ab
namespace Go.Ab
open Go
section
variable{P:Program}{σ:cO}{B:Nat}{h:Nat->Option ay}{H aa:ar}{w:World}
theorem ah1{t:TypeId}{n:Nat}(h:(P.info? t).map (·.bytes)=some n):∃i,P.info? t=some i/\i.bytes=n:=by simp_all
theorem CJ{v:Value}{ao bu dO:List Value}{len c:Nat}(aw:jS σ B h w)(dP:B<=w.heap.size)(eW:∀i,H.next<=i->i<aa.next->σ i=none)(aD:bH σ ao bu)(t:TypeId)(ec:Nat×Nat)
  (cH:ec.1<=ec.2/\∀i,i<bu.length+dO.length->(ec.1<=i&&i<ec.2)=false) (k:Nat) (aR:lO ao len c H=some (v,aa)):
  ∃ τ id,v=.slice (some ⟨id,0,none⟩) len c/\τ id=some (w.heap.size,0,bu.length+dO.length)/\
   lb B σ h H.next w τ (iW h H aa) aa.next {w with heap:=w.heap.push (.cells (bu++dO).toArray t ec),drawn:=k}:=by
 simp only[lO,ar.cL]at aR;cases aR
 simp_all[TX]
theorem ah2{t:TypeId}{l aF c b5 v:Value}(aw:jS σ B h w)(dP:B<=w.heap.size)(eW:∀i,H.next<=i->i<aa.next->σ i=none)(aE:ch σ l aF)(aD:ch σ c b5)
  (U:(qH P t).f l c H=some (v,aa)):gy P B (Instr.makeSlice t aF b5) w σ h H v aa:=by
 unfold qH at U;split at U
 case h_2=>cases U
 case h_1 e bc=>
 split at U
 case h_2=>cases U
 case h_1 size z bytes jC ni ME=>
 split at U
 case isFalse=>cases U
 case isTrue cf=>
 simp only[Bool.and_eq_true,p7,gE,decide_eq_true_eq]at cf;obtain⟨AK,sg⟩:=cf;have sg:=eq_of_beq_eq_true sg;unfold tI at U;cases l<;>simp only at U<;>try cases U
 rename_i k n;cases c<;>simp only at U<;>try cases U
 rename_i hl m;rw[aE.n8,aD.n8];split at U
 case isFalse=>cases U
 case isTrue c1=>
 split at U
 case isFalse=>cases U
 case isTrue c2=>
 split at U
 case isFalse=>cases U
 case isTrue a3=>
 simp only[Bool.and_eq_true,lR,decide_eq_true_eq]at a3;obtain⟨a3,a4⟩:=a3;obtain⟨oa,aq,nj⟩:=ah1 ME;have fj:oa.size=size:=by simp_all[gD]
 obtain⟨lA,oU⟩:=s6 ni w;have cQ:bH σ (cZ z) z.cells.toList:=(u2 oU).cells;have ob:z.cells.size=size:=by grind[Ie]
 have ah3:bH σ (fR n.toNat (cZ z)) (fR n.toNat z.cells.toList):=cQ.fR _;have CK:IntKind.i64.wrap n=n:=by rw[IntKind.wrap_i64];omega
 have u5:IntKind.i64.wrap m=m:=by rw[IntKind.wrap_i64];omega
 have CL:n.toNat<=m.toNat:=by omega
 obtain⟨d,aO⟩:∃d,m.toNat=n.toNat+d:=⟨m.toNat-n.toNat,by omega⟩;have aCp:fR m.toNat z.cells.toList=fR n.toNat z.cells.toList++fR d z.cells.toList:=by
  rw[aO];generalize n.toNat=a;induction a with
  | zero=>simp[fR]
  | succ a a7=>grind[fR,iv]
 obtain⟨τ,id,rfl,lz,hg⟩:=CJ (dO:=fR d z.cells.toList) aw dP eW ah3 e (0,0) (by simp) w.drawn U;have hlen:(fR n.toNat z.cells.toList).length+(fR d z.cells.toList).length=m.toNat*size:=by simp_all[Ih,Nat.add_mul]
 rw[hlen]at lz;refine⟨.slice (some ⟨w.heap.size,0,none⟩) n.toNat m.toNat,_,τ,?_,?_,hg⟩
 ·have s7:((bytes:Int)*m>2^48)=False:=by grind
  have aCq:((decide (m<0)||decide ((bytes:Int)*m>2^48)||decide (n<0)||decide (n>m))=true)=False:=by grind
  simp only[Instr.makeSlice,Sem.run_bind,run_underlying bc,Result.andThen_ok,asInt,asIntOf,Sem.run_pure,typeInfo,run_program,aq,CK,u5,nj];rw[Sem.run_ite];rw[if_neg (fun hh=>by grind)];simp only[Sem.run_bind,run_askRoom,Result.andThen_ok,n9 jC];by_cases aN:m.toNat*size=0
  ·simp_all[Array.eq_empty_of_size_eq_zero,newRow]
  ·rw[if_neg aN];simp only[Sem.run_bind,lA,Result.andThen_ok,Sem.run_pure,newRow,run_newObj]
   grind[Ig,Array.range]
 ·rw[rA];by_cases hnm':n=m
  ·subst hnm';simp only[decide_true,cond];exact TZ lz AK (Nat.le_refl _)
  simp_all[CI]
theorem T3(fH:Nat->Option (Nat×Nat)):∀(hy:List (Nat×Value)) (cells l:List Value),uR fH cells hy=some l->l.length=cells.length
 | [],cells,l,hf=>by cases hf;rfl
 |(i,v)::dO,cells,l,hf=>by
  unfold uR at hf;cases bS:fH i with
  | none=>simp_all
  | some os=>
   obtain⟨off,size⟩:=os;rw[bS]at hf;simp only at hf;split at hf;rename_i cf;simp only[gE,lR,Bool.and_eq_true,decide_eq_true_eq]at cf;have:=T3 fH dO _ l hf
   grind[iv,mj,nh,gE]
   grind
theorem ah4{t:TypeId}{len:Nat}{hy pt:List (Nat×Value)}{v:Value}(aw:jS σ B h w)(dP:B<=w.heap.size)(eW:∀i,H.next<=i->i<aa.next->σ i=none)
  (U:(eg P t len).f hy H=some (v,aa)) (h1:hy.map (·.1)=pt.map (·.1)) (h2:bH σ (hy.map (·.2)) (pt.map (·.2))):
  gy P B (Instr.buildSlice t len pt.toArray) w σ h H v aa:=by
 unfold eg at U;split at U
 case h_2=>cases U
 case h_1 e bc=>
 split at U
 case h_2=>cases U
 case h_1 size jC=>
 split at U
 case h_2=>cases U
 case h_1 z ni=>
 split at U
 case h_2=>cases U
 case h_1 cf=>
 simp only[Bool.and_eq_true,p7,lR,gE,decide_eq_true_eq]at cf;obtain⟨T4,AK,sg⟩:=cf;have sg:=eq_of_beq_eq_true sg;obtain⟨lA,oU⟩:=s6 ni w;have cQ:bH σ (cZ z) z.cells.toList:=(u2 oU).cells;have ob:z.cells.size=size:=by grind[Ie]
 simp only[HI]at U;cases hf:uR (fun i=>some (i*size,size)) (fR len (cZ z)) hy with
 | none=>simp_all
 | some ao=>
  rw[hf]at U;simp only at U;have he:=Ig len z.cells;rw[ob]at he;obtain⟨aF,gM,gN⟩:=Ia _ hy pt (fR len (cZ z)) ((Array.range (len*size)).map fun i=>z.cells[i%size]!) ao (by rw[he];exact cQ.fR len) h1 h2 hf;obtain⟨τ,id,rfl,lz,hg⟩:=CJ (dO:=[]) aw dP eW gN e (0,0) (by simp) w.drawn U;refine⟨.slice (some ⟨w.heap.size,0,none⟩) len len,_,τ,?_,TZ lz AK (by rw[<- gN.length,T3 _ _ _ _ hf,Ih,sg];simp),hg⟩;simp only[Instr.buildSlice,Sem.run_bind,run_underlying bc,Result.andThen_ok,n9 jC];rw[Sem.run_ite,if_neg (by omega)];by_cases aN:len*size=0
  ·simp_all[Array.eq_empty_of_size_eq_zero,newRow]
  simp_all[newRow]
end
end Go.Ab
namespace Go.Ab
open Go
section
variable{P:Program}{σ:cO}{B:Nat}{h:Nat->Option ay}{H:ar}{w:World}
theorem ah5{n:Nat}(aw:jS σ B h w)(id:Nat)(b bU:ay)(an:h id=some b)(aM:b.wr=true)(c o s:Nat)(db se:Array Value)(cW:TypeId)(ec:Nat×Nat)(h1:σ id=some (c,o,s))
  (h2:w.heap[c]?=some (.cells db cW ec)) (fj:se.size=db.size) (CM:o+bU.cells.length<=s) (hv:bH σ bU.cells ((se.toList.drop o).take bU.cells.length))
  (a6:Nat->Option ay) (aE:∀i c0,a6 i=some c0->(i=id/\c0=bU)\/(i≠id/\h i=some c0)):
  lb B σ h n w σ a6 n (w.setRow c se):=by
 obtain⟨b5,dd,cn,aCr,TR,H2,bb,bt,dZ,iX,h0,jm⟩:=aw.fC id b an;rw[h1]at bb;cases bb;rw[h2]at bt;cases bt;have ey:∀j gf,j≠id->h j=some gf->∀b5 dd cn,σ j=some (b5,dd,cn)->b5≠c:=fun j gf da bh b5 dd cn gx e=>aw.la id j b gf (Ne.symm da) an bh aM c o s b5 dd cn h1 gx e.symm
 refine⟨⟨?_,?_,?_⟩,Nat.le_refl _,fun _ _=>rfl,fun _ _ h=>h,rfl,rfl,rfl,by simp,?_,?_⟩;intro i c0 jl;rcases aE i c0 jl with⟨rfl,rfl⟩|⟨da,p6⟩
 exact⟨c,o,s,se,cW,ec,h1,setRow_heap w c db _ cW ec h2,fj.trans dZ,CM,hv,fun _=>jm aM⟩;obtain⟨dR,dr,cP,AG,AH,xi,b7,ca,g3,g4,g5,l2⟩:=aw.fC i c0 p6;refine⟨dR,dr,cP,AG,AH,xi,b7,?_,g3,g4,g5,l2⟩
 grind[setRow_other]
 intro i c0 jl u4;rcases aE i c0 jl with⟨rfl,rfl⟩|⟨da,p6⟩
 exact aw.own i b an aM;exact aw.own i c0 p6 u4;intro i j ib gf da aq bh AI eP bZ di dR dr cP b7 ca;rcases aE i ib aq with⟨vZ,rfl⟩|⟨u3,fJ⟩
 grind
 rcases aE j gf bh with⟨AE,rfl⟩|⟨yT,oT⟩
 grind
 exact aw.la i j ib gf da fJ oT AI eP bZ di dR dr cP b7 ca;intro k ag Fa;refine setRow_other w c k _ ?_;intro e;subst e;exact Fa ⟨id,b,o,s,an,aM,h1⟩;rintro k ⟨i,c0,dd,cn,jl,u4,gx⟩ _;rcases aE i c0 jl with⟨rfl,rfl⟩|⟨da,p6⟩
 exact⟨i,b,dd,cn,an,aM,gx⟩;exact⟨i,c0,dd,cn,p6,u4,gx⟩
theorem ah6(aw:jS σ B h w)(id k off:Nat)(b:ay)(an:h id=some b)(aM:b.wr=true)(c o s:Nat)(h1:σ id=some (c,o,s))(ag:σ k=none)(Ii:off<=b.cells.length)
  (a6:Nat->Option ay) (aE:∀i c0,a6 i=some c0->(i=k/\c0=⟨b.cells.drop off,true⟩)\/(i≠k/\i≠id/\h i=some c0)):
  lb B σ h k w (fun i=>if i=k then some (c,o+off,s)else σ i) a6 (k+1) w:=by
 let τ:cO:=fun i=>if i=k then some (c,o+off,s)else σ i
 have AD:∀i x,σ i=some x->τ i=some x:=fun i x al=>by grind
 have Ij:τ k=some (c,o+off,s):=if_pos rfl;have lz:∀i,i≠k->τ i=σ i:=fun i da=>if_neg da
 obtain⟨b5,dd,cn,db,cW,ec,bb,bt,dZ,iX,h0,jm⟩:=aw.fC id b an;rw[h1]at bb;cases bb;refine⟨⟨?_,?_,?_⟩,by omega,fun i aq=>if_neg (by omega),AD,rfl,rfl,rfl,Nat.le_refl _,fun _ _ _=>rfl,?_⟩;intro i c0 jl;rcases aE i c0 jl with⟨rfl,rfl⟩|⟨da,_,p6⟩
 refine⟨c,o+off,s,db,cW,ec,Ij,bt,dZ,by grind,?_,fun _=>jm aM⟩;have:=(h0.drop off).mono AD
 grind[drop_take,drop_drop]
 obtain⟨dR,dr,cP,AG,AH,xi,b7,ca,g3,g4,g5,l2⟩:=aw.fC i c0 p6;exact⟨dR,dr,cP,AG,AH,xi,(lz i da).trans b7,ca,g3,g4,g5.mono AD,l2⟩;intro i c0 jl u4;rcases aE i c0 jl with⟨rfl,rfl⟩|⟨da,_,p6⟩
 obtain⟨dR,dr,cP,b7,ca⟩:=aw.own id b an aM
 simp_all
 obtain⟨dR,dr,cP,b7,ca⟩:=aw.own i c0 p6 u4
 simp_all
 intro i j ib gf da aq bh AI eP bZ di dR dr cP b7 ca;have b7:τ i=some (eP,bZ,di):=b7;have ca:τ j=some (dR,dr,cP):=ca;rcases aE i ib aq with⟨vZ,rfl⟩|⟨u3,ah7,fJ⟩
 rcases aE j gf bh with⟨AE,rfl⟩|⟨yT,T5,oT⟩
 omega;rw[vZ,Ij]at b7;cases b7;rw[lz j yT]at ca;exact aw.la id j b gf (Ne.symm T5) an oT aM _ _ _ _ _ _ h1 ca;rw[lz i u3]at b7;rcases aE j gf bh with⟨AE,rfl⟩|⟨yT,T5,oT⟩
 rw[AE,Ij]at ca;cases ca;intro e;exact aw.la id i b ib (Ne.symm ah7) an fJ aM _ _ _ _ _ _ h1 b7 e.symm;rw[lz j yT]at ca;exact aw.la i j ib gf da fJ oT AI eP bZ di dR dr cP b7 ca;rintro pw ⟨i,c0,dd,cn,jl,u4,gx⟩ _;have gx:τ i=some (pw,dd,cn):=gx;rcases aE i c0 jl with⟨vZ,rfl⟩|⟨da,_,p6⟩
 rw[vZ,Ij]at gx;cases gx;exact⟨id,b,o,s,an,aM,h1⟩;exact⟨i,c0,dd,cn,p6,u4,(lz i da).symm.trans gx⟩
theorem Ik{x bK:Value}{n:Nat}(al:ch σ x bK)(U:mM x=some n):(Builtin.lenOf bK).run P w=.ok n w:=by
 unfold mM at U;cases al<;>simp only at U<;>cases U
 ·rename_i s _;show Result.ok s.size w=_
  simp_all[gE]
 all_goals rfl
theorem Il{size n m:Nat}{x bK:Value}{l:List Value}(aw:jS σ B h w)(bp:tT h H x)(al:ch σ x bK)(hm:mM x=some m)(aR:n<=m)(U:r7 H size n x=some l):
  ∃aF,(Builtin.firstCells size n bK).run P w=.ok aF.toArray w/\bH σ l aF/\l.length=n*size:=by
 unfold r7 at U;cases al<;>simp only at U<;>try cases U
 case string s _=>
  split at U
  ·rename_i h1;cases U;have h1:=eq_of_beq_eq_true h1;subst h1;have MF:s.data.toList.length=m:=by grind[mM,gE]
   refine⟨(s.data.toList.take n).map vS,?_,by rw[mj];exact bH.TL .u8 (fun b:UInt8=>((b.toNat:Nat):Int)) _,?_⟩
   ·show Result.ok ((s.extract 0 n).data.map fun b=>Value.int .u8 b.toNat) w=_
    congr 1
    apply Array.ext';simp;rfl
   simp_all[mj]
  grind
 case kP _=>
  have:n=0:=by grind[mM]
  subst this;exact⟨[],rfl,.nil,by simp⟩
 case n7 id off len px c o s a dU bS jD _=>
  split at U
  ·simp_all[Builtin.firstCells,loadCells,loadCellsFrom]
  ·rename_i aN;have aN:n≠0:=fun e=>by simp_all
   have jD:a=⟨c,o+off,none⟩:=(jD.resolve_left (by grind[mM])).1;subst jD;obtain⟨aF,h1,h2,aB⟩:=AJ (P:=P) aw (bp id rfl) U dU;exact⟨aF,h1,h2,aB⟩
 case nK id off len px cap c o s a dU bS lg jD _=>
  split at U
  ·simp_all[Builtin.firstCells,loadCells,loadCellsFrom]
  ·rename_i aN;have aN:n≠0:=fun e=>by simp_all
   have jD:a=⟨c,o+off,none⟩:=by grind[mM]
   subst jD;obtain⟨aF,h1,h2,aB⟩:=AJ (P:=P) aw (bp id rfl) U dU;exact⟨aF,h1,h2,aB⟩
end
end Go.Ab
namespace Go.Ab
open Go
section
variable{P:Program}{σ:cO}{B:Nat}{h:Nat->Option ay}{H aa:ar}{w:World}
theorem MG(z:Array Value)(n:Nat):(Builtin.zeroCells z n).toList.length=n*z.size:=by simp[Builtin.zeroCells]
theorem MH{kh ki cW e:TypeId}(bc:P.underlying kh=some (.slice e))(al:Ao P ki=true){i:TypeInfo}(aq:P.info? e=some i){z:Value}(dQ:hX P e=some z)
  (ob:z.cells.size=i.size) (T6:Option Addr) (len cap n:Nat) (x:Value) (old cL:List Value) (hlen:(Builtin.lenOf x).run P w=.ok n w) (yV:cap<len+n) (tU:xd (len+n) i.bytes=true)
  (tQ:(Builtin.firstCells i.size len (.slice T6 len cap)).run P {w with drawn:=w.drawn+1}=.ok old.toArray {w with drawn:=w.drawn+1}) (AF:(Builtin.firstCells i.size n x).run P {w with drawn:=w.drawn+1}=.ok cL.toArray {w with drawn:=w.drawn+1}):
  ∃(dO:List Value) (jO:Nat),len+n<=jO/\dO.length=(jO-(len+n))*i.size/\(Builtin.append_ #[kh,ki] cW #[.slice T6 len cap,x]).run P w=
   .ok (.slice (some ⟨w.heap.size,0,none⟩) (len+n) jO) {w with heap:=w.heap.push (.cells (old++cL++dO).toArray e (0,0)),drawn:=w.drawn+1}:=by
 obtain⟨lA,_⟩:=s6 (P:=P) dQ {w with drawn:=w.drawn+1};simp only[xd,Bool.and_eq_true,lR,decide_eq_true_eq]at tU;obtain⟨r1,r2⟩:=tU
 let jO:=(len+n)+(w.tape w.drawn (.appendCap (len+n) cap e))%(2^63-(len+n))
 refine⟨(Builtin.zeroCells z.cells (jO-(len+n))).toList,jO,by omega,by rw[MG,ob],?_⟩;have xl:∃d,P.underlying ki=some d/\(match d with|.int _=>true|_=>false)=false:=by grind[Ao]
 obtain⟨AL,xm,yW⟩:=xl;have sh:(typeInfo e).run P w=.ok i w:=by simp[typeInfo,aq]
 have jC:(sizeOf e).run P w=.ok i.size w:=by simp_all[sizeOf]
 have tV:¬Builtin.nextslicecap (len+n) cap*i.bytes>2^48:=by have:=nextslicecap_le yV;have h2:=mul_le_mul_right i.bytes this;omega
 have MI:¬(((len+n:Nat):Int)>IntKind.i64.max/\(False\/i.bytes=0)):=by
  have e:IntKind.i64.max=9223372036854775807:=by decide
  omega
 have cf:(Question.appendCap (len+n) cap e).forced=false:=rfl;have MJ:(Question.appendCap (len+n) cap e).cut (w.tape w.drawn (.appendCap (len+n) cap e))=jO:=rfl;simp only[Builtin.append_,List.getElem?_toArray,List.getElem?_cons_zero,List.getElem?_cons_succ,Sem.run_bind,run_underlying bc,run_underlying xm,Result.andThen_ok,jC,Sem.run_pure];cases AL<;>simp only[]at yW<;>try cases yW
 all_goals
  simp only[Sem.run_bind,Result.andThen_ok,Bool.false_eq_true,if_false,hlen];rw[Sem.run_ite,if_neg (by omega)];simp only[Sem.run_bind,sh,Result.andThen_ok,Sem.run_ite];rw[if_neg MI,if_neg tV];simp only[run_choose,cf,MJ,Bool.false_eq_true,if_false,Result.andThen_ok,Sem.run_pure];simp only[typeInfo,aq,Sem.run_bind,run_program,Result.andThen_ok,Sem.run_pure,run_askRoom,tQ,AF,lA,Bool.not_false,if_true,newRow,run_newObj]
  congr 2
  apply congrArg (fun a=>w.heap.push (Obj.cells a e (0,0)));apply Array.ext';simp
theorem MK{kh ki cW e:TypeId}(bc:P.underlying kh=some (.slice e))(al:Ao P ki=true){size:Nat}(aq:gD P e=some size)(a:Addr)(len cap n:Nat)(x:Value)(cL:List Value)
  (hlen:(Builtin.lenOf x).run P w=.ok n w) (yV:len+n<=cap) (AF:(Builtin.firstCells size n x).run P w=.ok cL.toArray w) {aV:World} (hb:(storeCells (a.add (len*size)) cL).run P w=.ok () aV):
  (Builtin.append_ #[kh,ki] cW #[.slice (some a) len cap,x]).run P w=.ok (.slice (some a) (len+n) cap) aV:=by
 have xl:∃d,P.underlying ki=some d/\(match d with|.int _=>true|_=>false)=false:=by grind[Ao]
 obtain⟨AL,xm,yW⟩:=xl;simp only[Builtin.append_,List.getElem?_toArray,List.getElem?_cons_zero,List.getElem?_cons_succ,Sem.run_bind,run_underlying bc,run_underlying xm,Result.andThen_ok,n9 aq,Sem.run_pure];cases AL<;>simp only[]at yW<;>try cases yW
 all_goals
  simp only[Sem.run_bind,Result.andThen_ok,Bool.false_eq_true,if_false,hlen];rw[Sem.run_ite,if_pos yV];simp only[Sem.run_bind,Bool.not_false,if_true,AF,Result.andThen_ok,hb,Sem.run_pure]
theorem ah8{kh ki cW e:TypeId}(bc:P.underlying kh=some (.slice e))(al:Ao P ki=true){size:Nat}(aq:gD P e=some size)(x:Value)(cL:List Value)
  (hlen:(Builtin.lenOf x).run P w=.ok 0 w) (AF:(Builtin.firstCells size 0 x).run P w=.ok cL.toArray w):
  (Builtin.append_ #[kh,ki] cW #[.slice none 0 0,x]).run P w=.ok (.slice none 0 0) w:=by
 have xl:∃d,P.underlying ki=some d/\(match d with|.int _=>true|_=>false)=false:=by grind[Ao]
 obtain⟨AL,xm,yW⟩:=xl;simp only[Builtin.append_,List.getElem?_toArray,List.getElem?_cons_zero,List.getElem?_cons_succ,Sem.run_bind,run_underlying bc,run_underlying xm,Result.andThen_ok,n9 aq,Sem.run_pure];cases AL<;>simp only[]at yW<;>try cases yW
 all_goals
  simp only[Sem.run_bind,Result.andThen_ok,Bool.false_eq_true,if_false,hlen];rw[Sem.run_ite,if_pos (by omega)];simp only[Sem.run_bind,Bool.not_false,if_true,AF,Result.andThen_ok,Sem.run_pure]
theorem ah9{ao:List Value}{id:Nat}(aw:jS σ B h w)(eW:σ H.next=none)(da:id≠H.next)(an:H.get id≠none)(i:Nat)(b:ay)
  (bc:iW h H ⟨(H.t.set id none).set H.next (some ⟨ao,true⟩),Nat.succ H.next,H.dB,H.dI⟩ i=some b):(i=H.next/\b=⟨ao,true⟩)\/(i≠H.next/\i≠id/\h i=some b):=by
 have aR:h H.next=none:=by
  cases hh:h H.next with
  | none=>rfl
  | some b=>obtain⟨c,o,s,_,_,_,h1,_⟩:=aw.fC _ _ hh;simp_all
 unfold iW at bc;by_cases aq:i=H.next;subst aq;split at bc
 simp_all
 rcases Tr.CD _ _ _ _ _ bc with⟨_,h2⟩|⟨h1,_⟩
 simp_all
 omega;right;have bb:(ar.get ⟨(H.t.set id none).set H.next (some ⟨ao,true⟩),Nat.succ H.next,H.dB,H.dI⟩ i)=(H.t.set id none).get i:=Tr.ly _ _ _ _ aq;rw[bb]at bc;by_cases qJ:i=id
 simp_all[Tr.yS]
 rw[Tr.ly _ _ _ _ qJ]at bc;have bt:H.t.get i=H.get i:=rfl
 simp_all
theorem aia{n:Nat}(aw:jS σ B h w)(id:Nat)(b:ay)(an:h id=some b)(L:Nat):lb B σ h n w σ (fun j=>if j=id then some ⟨b.cells.take L,b.wr⟩else h j) n w:=by
 have ao:∀j c0,(if j=id then some (⟨b.cells.take L,b.wr⟩:ay)else h j)=some c0->∃j9,h j=some j9/\j9.wr=c0.wr:=by grind
 refine⟨⟨fun j c0 bh=>?_,fun j c0 bh aM=>?_,fun i j ib gf da aq bh aM=>?_⟩,Nat.le_refl _,fun _ _=>rfl,fun _ _ h=>h,rfl,rfl,rfl,Nat.le_refl _,fun _ _ _=>rfl,fun c ⟨j,c0,o,s,bh,aM,aD⟩ _=>?_⟩;have bh:(if j=id then some (⟨b.cells.take L,b.wr⟩:ay)else h j)=some c0:=bh;split at bh;rename_i e;cases bh;subst e;obtain⟨c,o,s,db,cW,ec,bb,bt,dZ,iX,h0,jm⟩:=aw.fC j b an;refine⟨c,o,s,db,cW,ec,bb,bt,dZ,?_,?_,jm⟩
 grind
 have:=h0.take L
 grind
 exact aw.fC j c0 bh;obtain⟨j9,h1,h2⟩:=ao j c0 bh;exact aw.own j j9 h1 (h2.trans aM);obtain⟨j9,h1,h2⟩:=ao i ib aq;obtain⟨b1,aB,_⟩:=ao j gf bh;exact aw.la i j j9 b1 da h1 aB (h2.trans aM);obtain⟨j9,h1,h2⟩:=ao j c0 bh;exact⟨j,j9,o,s,h1,h2.trans aM,aD⟩
theorem wrap_i64{n:Int}(aN:0<=n)(h:n<=9223372036854775807):IntKind.i64.wrap n=n:=by
 have:iJ .i64 n=IntKind.i64.wrap n:=tR .i64 n;rw[<- this];unfold iJ tF;cases n with
 | ofNat m=>grind[p7]
 | negSucc m=>omega
theorem aib{kh ki cW e:TypeId}(bc:P.underlying kh=some (.slice e))(al:Ct P ki=true){i:TypeInfo}(aq:P.info? e=some i){z:Value}(dQ:hX P e=some z)
  (ob:z.cells.size=i.size) (bS:0<i.size) (n:Nat) (aR:0<n) (tU:xd n i.bytes=true):
  ∃(dO:List Value) (jO:Nat),n<=jO/\dO.length=(jO-n)*i.size/\(Builtin.append_ #[kh,ki] cW #[.slice none 0 0,.int .i64 n]).run P w=
   .ok (.slice (some ⟨w.heap.size,0,none⟩) n jO) {w with heap:=w.heap.push (.cells ((Builtin.zeroCells z.cells n).toList++dO).toArray e (0,0)),drawn:=w.drawn+1}:=by
 obtain⟨lA,_⟩:=s6 (P:=P) dQ {w with drawn:=w.drawn+1};simp only[xd,Bool.and_eq_true,lR,decide_eq_true_eq]at tU;obtain⟨r1,r2⟩:=tU
 let jO:=n+(w.tape w.drawn (.appendCap n 0 e))%(2^63-n)
 refine⟨(Builtin.zeroCells z.cells (jO-n)).toList,jO,by omega,by rw[MG,ob],?_⟩;have xl:∃k,P.underlying ki=some (.int k):=by grind[Ct]
 obtain⟨k,xm⟩:=xl;have sh:(typeInfo e).run P w=.ok i w:=by simp[typeInfo,aq]
 have jC:(sizeOf e).run P w=.ok i.size w:=by simp_all[sizeOf]
 have tV:¬Builtin.nextslicecap n 0*i.bytes>2^48:=by have:=nextslicecap_le (need:=n) (old:=0) aR;have h2:=mul_le_mul_right i.bytes this;omega
 have oc:¬((n:Int)*(i.bytes:Int)>2^48):=by grind
 have MI:¬(((n:Nat):Int)>IntKind.i64.max/\(True\/i.bytes=0)):=by
  have e:IntKind.i64.max=9223372036854775807:=by decide
  omega
 have aM:IntKind.i64.wrap (n:Int)=n:=wrap_i64 (by omega) (by omega);have cf:(Question.appendCap n 0 e).forced=false:=rfl;have MJ:(Question.appendCap n 0 e).cut (w.tape w.drawn (.appendCap n 0 e))=jO:=rfl;have AM:¬n*i.size=0:=by have:=Nat.mul_pos aR bS;omega
 simp only[Builtin.append_,List.getElem?_toArray,List.getElem?_cons_zero,List.getElem?_cons_succ,Sem.run_bind,run_underlying bc,run_underlying xm,Result.andThen_ok,jC,Sem.run_pure,asInt];simp only[if_true,asIntOf,Sem.run_bind,Sem.run_pure,Result.andThen_ok,aM];rw[Sem.run_ite,if_neg (by omega)];simp only[Sem.run_bind,sh,Result.andThen_ok];rw[Sem.run_ite,if_neg oc];simp only[Sem.run_bind,Sem.run_pure,Result.andThen_ok,Int.toNat_natCast,Nat.zero_add];rw[Sem.run_ite,if_neg (by omega)];simp only[Sem.run_bind,sh,Result.andThen_ok,Sem.run_ite];rw[if_neg MI,if_neg tV];simp only[run_choose,cf,MJ,Bool.false_eq_true,if_false,Result.andThen_ok,Sem.run_pure];simp only[typeInfo,aq,Sem.run_bind,run_program,Result.andThen_ok,Sem.run_pure,run_askRoom,lA,Bool.not_true,if_false,Bool.false_eq_true,newRow,run_newObj,Builtin.firstCells];rw[if_neg AM];simp only[Result.andThen_ok,lA]
 congr 2
 apply congrArg (fun a=>w.heap.push (Obj.cells a e (0,0)))
 simp_all
theorem aic{kh ki cW e:TypeId}(bc:P.underlying kh=some (.slice e))(al:Ct P ki=true){i:TypeInfo}(aq:P.info? e=some i):
  (Builtin.append_ #[kh,ki] cW #[.slice none 0 0,.int .i64 ((0:Nat):Int)]).run P w=.ok (.slice none 0 0) w:=by
 have xl:∃k,P.underlying ki=some (.int k):=by grind[Ct]
 obtain⟨k,xm⟩:=xl;have sh:(typeInfo e).run P w=.ok i w:=by simp[typeInfo,aq]
 have jC:(sizeOf e).run P w=.ok i.size w:=by simp_all[sizeOf]
 have aM:IntKind.i64.wrap ((0:Nat):Int)=((0:Nat):Int):=wrap_i64 (by omega) (by omega);simp only[Builtin.append_,List.getElem?_toArray,List.getElem?_cons_zero,List.getElem?_cons_succ,Sem.run_bind,run_underlying bc,run_underlying xm,Result.andThen_ok,jC,Sem.run_pure,asInt];simp only[if_true,asIntOf,Sem.run_bind,Sem.run_pure,Result.andThen_ok,aM];rw[Sem.run_ite,if_neg (by omega)];simp only[Sem.run_bind,sh,Result.andThen_ok];rw[Sem.run_ite,if_neg (by omega)];simp only[Sem.run_bind,Sem.run_pure,Result.andThen_ok,Int.toNat_natCast,Nat.zero_add]
 simp_all
theorem aid{kh ki cW:TypeId}{s cn x bK v:Value}(aw:jS σ B h w)(dP:B<=w.heap.size)(eW:∀i,H.next<=i->i<aa.next->σ i=none)(u6:Ct P ki=true)
  (tW:ch σ s cn) (jE:ch σ x bK) (U:(Cs P kh).f [s,x] H=some (v,aa)):gy P B (Builtin.append_ #[kh,ki] cW #[cn,bK]) w σ h H v aa:=by
 unfold Cs at U;split at U
 case h_2=>cases U
 case h_1 e bc=>
 split at U
 case h_2=>cases U
 case h_1 i aq=>
 split at U
 case h_2=>cases U
 case h_1 z dQ=>
 split at U
 case h_2=>cases U
 case h_1 cf=>
 simp only[Bool.and_eq_true,p7,gE,decide_eq_true_eq]at cf;obtain⟨bS,sg⟩:=cf;have sg:=eq_of_beq_eq_true sg;have ob:z.cells.size=i.size:=by grind[Ie]
 simp only[lP]at U;unfold HK at U;split at U
 case h_2=>cases U
 case h_1 a len c=>
 split at U
 case h_1=>cases U
 case h_2=>
 split at U
 case h_2=>cases U
 case h_1 k n=>
 split at U
 case h_2=>cases U
 case h_1=>
 split at U
 case h_2=>cases U
 case h_1 an=>
 rw[Bool.and_eq_true,Bool.and_eq_true]at an;obtain⟨ML,je,py⟩:=an;obtain rfl:=eq_of_beq_eq_true je;obtain rfl:=eq_of_beq_eq_true py;have aN:0<=n:=by simp_all[k9]
 obtain⟨m,rfl⟩:∃m:Nat,n=m:=⟨n.toNat,by omega⟩;obtain rfl:cn=.slice none 0 0:=by cases tW;rfl
 obtain rfl:bK=.int .i64 m:=by cases jE;rfl
 rw[Int.toNat_natCast]at U;split at U
 case h_1 hm=>grind[eq_of_beq_eq_true,gy.pure,aic]
 case h_2 hm=>
  have hm:0<m:=by grind
  split at U
  case h_2=>cases U
  case h_1 tU=>
  obtain⟨dO,jO,b7,ca,g3⟩:=aib (P:=P) (w:=w) (cW:=cW) bc u6 aq dQ ob bS m hm tU;obtain⟨_,MM⟩:=s6 (P:=P) dQ w;have aie:bH σ (fR m (cZ z)) (Builtin.zeroCells z.cells m).toList:=by
   have bb:(Builtin.zeroCells z.cells m).toList=fR m z.cells.toList:=by grind[Builtin.zeroCells,Ig]
   rw[bb];exact(u2 MM).cells.fR m
  obtain⟨τ,id,rfl,lz,hg⟩:=CJ (dO:=dO) aw dP eW aie e (0,0) (by simp) (w.drawn+1) U;refine⟨_,_,τ,g3,?_,hg⟩;refine CI lz bS b7 ?_;rw[ca,MG,ob,<- Nat.add_mul]
  simp_all
theorem aif{kh ki cW:TypeId}{s cn x bK v:Value}(aw:jS σ B h w)(dP:B<=w.heap.size)(eW:∀i,H.next<=i->i<aa.next->σ i=none)(gF:tT h H s)(qK:tT h H x)
  (tW:ch σ s cn) (jE:ch σ x bK) (U:(Cr P [kh,ki]).f [s,x] H=some (v,aa)):gy P B (Builtin.append_ #[kh,ki] cW #[cn,bK]) w σ h H v aa:=by
 unfold Cr at U;simp only at U;split at U
 case h_2=>cases U
 case h_1 e bc=>
 split at U
 case h_2=>cases U
 case h_1 i aq=>
 split at U
 case h_2=>cases U
 case h_1 z dQ=>
 split at U
 case h_2=>cases U
 case h_1 cf=>
 simp only[Bool.and_eq_true,p7,gE,decide_eq_true_eq]at cf;obtain⟨⟨bS,sg⟩,u6⟩:=cf;have sg:=eq_of_beq_eq_true sg;have ob:z.cells.size=i.size:=by grind[Ie]
 have fj:gD P e=some i.size:=by simp[gD,aq]
 simp only[lP,fu]at U;split at U
 case h_2=>cases U
 case h_1 n aR=>
 split at U
 case h_2=>cases U
 case h_1 cL da=>
 have jC:jS σ B h {w with drawn:=w.drawn+1}:=⟨aw.fC,aw.own,aw.la⟩;obtain⟨pz,eZ,fI,CN⟩:=Il (P:=P) aw qK jE aR (Nat.le_refl _) da;obtain⟨Ff,fk,dE,tX⟩:=Il (P:=P) jC qK jE aR (Nat.le_refl _) da;have mR:=Ik (P:=P) (w:=w) jE aR;have aih:pz.length=n*i.size:=by rw[<- fI.length];exact CN
 have xn:Ff.length=n*i.size:=by rw[<- dE.length];exact tX
 unfold qE at U;cases tW<;>simp only at U<;>try cases U
 case kP _=>
  split at U
  ·rename_i aN;cases U;have aN:=eq_of_beq_eq_true aN;subst aN;exact gy.pure aw ⟨_,ah8 bc u6 fj bK pz mR eZ,.kP .nil⟩
  ·rename_i aN;have aN:n≠0:=fun e=>by simp_all
   split at U
   ·rename_i tU;obtain⟨dO,jO,b7,ca,g3⟩:=MH (P:=P) (w:=w) (cW:=cW) bc u6 aq dQ ob none 0 0 n bK [] Ff mR (by omega) (by simp_all) rfl fk;obtain⟨τ,id,rfl,lz,hg⟩:=CJ (dO:=dO) aw dP eW dE e (0,0) (by simp) (w.drawn+1) U;refine⟨_,_,τ,g3,?_,by simp_all⟩;rw[Nat.zero_add]at*;refine CI lz bS b7 ?_;rw[ca,xn,<- Nat.add_mul]
    simp_all
   grind
 case n7 id off len px c o cU a dU rB jD _=>
  split at U
  ·rename_i aN;cases U;have aN:=eq_of_beq_eq_true aN;subst aN;refine gy.pure aw ⟨_,?_,.n7 id off len px c o cU a dU rB jD .nil⟩;have AN:pz=[]:=length_eq_zero_iff.1 (by omega);subst AN;exact MK (w:=w) bc u6 fj a len len 0 bK [] mR (by omega) eZ rfl
  ·rename_i aN;have aN:n≠0:=fun e=>by simp_all
   split at U
   ·rename_i tU;split at U
    case isFalse aD=>grind[eq_of_beq_eq_true]
    case isTrue=>
    unfold yH at U;split at U
    case h_2=>cases U
    case h_1 old tQ=>
    have MN:∃wb,(Builtin.firstCells i.size len (.slice (some a) len len)).run P {w with drawn:=w.drawn+1}=.ok wb.toArray {w with drawn:=w.drawn+1}/\bH σ old wb/\old.length=len*i.size:=by
     split at tQ
     ·rename_i tY;cases tQ;have tY:=eq_of_beq_eq_true tY
      simp_all[Builtin.firstCells,loadCells,loadCellsFrom]
     ·rename_i tY;have tY:len≠0:=fun e=>by simp_all
      have jD:a=⟨c,o+off,none⟩:=(jD.resolve_left tY).1;subst jD;obtain⟨aF,bO,q2,dz⟩:=AJ (P:=P) jC (gF id rfl) tQ dU;exact⟨aF,bO,q2,dz⟩
    obtain⟨wb,bZ,dr,hn⟩:=MN;obtain⟨dO,jO,b7,ca,g3⟩:=MH (P:=P) (w:=w) (cW:=cW) bc u6 aq dQ ob (some a) len len n bK wb Ff mR (by omega) tU bZ fk;rw[iv]at U;obtain⟨τ,tO,rfl,lz,hg⟩:=CJ (dO:=dO) aw dP eW (dr.append dE) e (0,0) (by simp) (w.drawn+1) U;refine⟨_,_,τ,g3,?_,hg⟩;refine CI lz bS b7 ?_;have:=dr.length;rw[ca,length_append,xn,<- this,hn,<- Nat.add_mul,<- Nat.add_mul]
    simp_all
   grind
 case nK id off len px cap c o cU a dU rB lg jD _=>
  split at U
  ·rename_i aN;cases U;have aN:=eq_of_beq_eq_true aN;subst aN;refine gy.pure aw ⟨_,?_,.nK id off len px cap c o cU a dU rB lg jD .nil⟩;have AN:pz=[]:=length_eq_zero_iff.1 (by omega);subst AN;exact MK (w:=w) bc u6 fj a len cap 0 bK [] mR (by omega) eZ rfl
  ·rename_i aN;have aN:n≠0:=fun e=>by simp_all
   split at U
   case isFalse=>cases U
   case isTrue tU=>
   split at U
   case isTrue aD=>grind[eq_of_beq_eq_true]
   case isFalse=>
   split at U
   case isFalse=>cases U
   case isTrue xo=>
   have xo:=eq_of_beq_eq_true xo;obtain rfl:px=i.size:=by omega
   unfold Am at U;cases hg:H.get id with
   | none=>simp_all
   | some b=>
    rw[hg]at U;simp only at U;split at U
    case h_2=>cases U
    case h_1 cf=>
    simp only[Bool.and_eq_true,ar.nZ,gE]at cf;obtain⟨⟨aM,_⟩,MO,aii⟩:=cf;rw[lR]at MO;have MO:=of_decide_eq_true MO;have an:=gF id rfl b hg;have Fg:=aia (n:=H.next) aw id b an (off+len*i.size);simp only[lO,ar.cL,ar.set,iv,nh,mj]at U;cases U;have qL:(b.cells.drop off).take (len*i.size)=(b.cells.take (off+len*i.size)).drop off:=by grind
    have aij:(b.cells.take (off+len*i.size)).length=off+len*i.size:=by simp_all
    have qM:∀j c0,j≠id->h j=some c0->(if j=id then some (⟨b.cells.take (off+len*i.size),b.wr⟩:ay)else h j)=some c0:=fun j c0 da bh=>by simp_all
    generalize yX:b.cells.take (off+len*i.size)=fX at*;obtain⟨b5,dd,cn,db,T7,ec,bb,bt,dZ,iX,h0,jm⟩:=Fg.fD.fC id ⟨fX,b.wr⟩ (if_pos rfl);rw[dU]at bb;cases bb;simp only at iX h0;have ag:σ H.next=none:=eW H.next (Nat.le_refl _) (lt_succ_self _);have aik:id≠H.next:=fun e=>by simp_all
    have T8:=fun j c0=>ah9 (ao:=fX.drop off++cL) (h:=h) (H:=H) (id:=id) aw ag aik (by grind) j c0
    by_cases xp:len+n<=cap
    ·-- in fH
     have jD:a=⟨c,o+off,none⟩/\o+off+cap*i.size<=cU:=by
      rcases jD with hh|⟨_,h2⟩
      ·exact hh
      ·omega
     obtain⟨rfl,yV⟩:=jD;have aCs:o+fX.length+pz.length<=db.size:=by
      rw[aih,aij,dZ];have:=mul_le_mul_right i.size xp
      grind
     have qN:∀u∈pz,u.oneCell'=true:=T0 fI aii;have hb:=Mv (P:=P) c (o+off+len*i.size) T7 ec pz 0 db w bt (by omega) qN (fun j bh=>(jm aM).2 j (by omega))
     let bU:ay:=⟨fX++cL,b.wr⟩
     let se:=(db.toList.take (o+off+len*i.size+0)++pz++db.toList.drop (o+off+len*i.size+0+pz.length)).toArray
     have Im:lb B σ (fun j=>if j=id then some (⟨fX,b.wr⟩:ay)else h j) H.next w σ (fun j=>if j=id then some bU else h j) H.next (w.setRow c se):=by
      refine ah5 Fg.fD id ⟨fX,b.wr⟩ bU (if_pos rfl) aM c o cU db se T7 ec dU bt ?_ ?_ ?_ _ ?_
      ·simp[se];omega
      ·grind
      ·have hlen:bU.cells.length=fX.length+pz.length:=by grind
       have hm:(se.toList.drop o).take bU.cells.length=(db.toList.drop o).take fX.length++pz:=by
        rw[hlen];apply ext_getElem?;intro k;have hL:o+off+len*i.size+0=o+fX.length:=by omega
        simp only[se,hL,List.getElem?_take,List.getElem?_drop,List.getElem?_append,length_append,length_take,length_drop,Array.length_toList];have c1:min (o+fX.length) db.size=o+fX.length:=by omega
        have c2:min fX.length (db.size-o)=fX.length:=by omega
        simp only[c1,c2];by_cases ep:k<fX.length
        ·simp[ep,show k<fX.length+pz.length by omega,show o+k<o+fX.length+pz.length by omega,show o+k<o+fX.length by omega]
        ·by_cases hl:k<fX.length+pz.length
         ·simp only[ep,hl,if_true,if_false,show o+k<o+fX.length+pz.length by omega,show¬o+k<o+fX.length by omega]
          congr 1;omega
         grind
       rw[hm];exact h0.append fI
      ·intro j c0 bh;by_cases Io:j=id
       ·simp_all
       simp_all
     have MP:lb B σ (fun j=>if j=id then some bU else h j) H.next (w.setRow c se) (fun j=>if j=H.next then some (c,o+off,cU)else σ j) (iW h H ⟨(H.t.set id none).set H.next (some ⟨fX.drop off++cL,true⟩),Nat.succ H.next,H.dB,H.dI⟩) (H.next+1) (w.setRow c se):=by
      refine ah6 Im.fD id H.next off bU (by simp) aM c o cU dU ag (by grind) _ ?_;intro j c0 bh;rcases T8 j c0 bh with⟨bO,q2⟩|⟨bO,q2,dz⟩
      ·left;refine⟨bO,q2.trans ?_⟩;simp only[bU]
       simp_all[drop_append_of_le_length]
      simp_all
     refine⟨.slice (some ⟨c,o+off,none⟩) (len+n) cap,_,_,?_,?_,Fg.trans (Im.trans MP)⟩
     ·refine MK (w:=w) bc u6 fj ⟨c,o+off,none⟩ len cap n bK pz mR xp eZ ?_
      grind[CE]
     ·exact .nK H.next 0 (len+n) i.size cap c (o+off) cU _ (if_pos rfl) bS xp (.inl ⟨by simp,by omega⟩) .nil
    ·-- a cL array
     have MN:∃wb,(Builtin.firstCells i.size len (.slice (some a) len cap)).run P {w with drawn:=w.drawn+1}=.ok wb.toArray {w with drawn:=w.drawn+1}/\bH σ (fX.drop off) wb:=by
      rcases jD with⟨rfl,_⟩|⟨rfl,rfl⟩
      ·have:r5 H id off (len*i.size)=some (fX.drop off):=by simp_all[AA,xb,mj,nh,gE]
       obtain⟨aF,bO,q2,dz⟩:=AJ (P:=P) jC (gF id rfl) this dU;exact⟨aF,bO,q2⟩
      simp_all[Builtin.firstCells,loadCells,loadCellsFrom,drop_eq_nil_of_le]
     obtain⟨wb,bZ,dr⟩:=MN;have Fh:(fX.drop off).length=len*i.size:=by simp;omega
     obtain⟨dO,jO,b7,ca,g3⟩:=MH (P:=P) (w:=w) (cW:=cW) bc u6 aq dQ ob (some a) len cap n bK wb Ff mR (by omega) tU bZ fk;have ail:=TP aw dP H.next ag (fX.drop off++cL) (wb++Ff) dO e (0,0) (dr.append dE) (by simp) (w.drawn+1) (iW h H ⟨(H.t.set id none).set H.next (some ⟨fX.drop off++cL,true⟩),Nat.succ H.next,H.dB,H.dI⟩)
      (fun j c0 bh=>by
       rcases T8 j c0 bh with q|⟨bO,_,dz⟩
       ·grind
       simp_all)
     refine⟨_,_,_,g3,?_,ail⟩;refine CI (if_pos rfl) bS b7 ?_;have:=dr.length;rw[ca,length_append,xn,<- this,Fh,<- Nat.add_mul,<- Nat.add_mul]
     simp_all
end
end Go.Ab
namespace Go.Ab
open Go
section
variable{P:Program}{σ:cO}{B:Nat}{h:Nat->Option ay}{H aa:ar}{w:World}
theorem aim{r8 kh cW:TypeId}{d eQ x bK v:Value}(aw:jS σ B h w)(CO:tT h H d)(qK:tT h H x)(AO:ch σ d eQ)(jE:ch σ x bK)
  (U:(yI P [r8,kh]).f [d,x] H=some (v,aa)):gy P B (Builtin.copy_ #[r8,kh] cW #[eQ,bK]) w σ h H v aa:=by
 unfold yI at U;simp only at U;split at U
 case h_2=>cases U
 case h_1 e bc=>
 split at U
 case h_2=>cases U
 case h_1 size fj=>
 split at U
 case isFalse=>cases U
 case isTrue bS=>
 simp only[lP,qF]at U;cases AO<;>simp only at U<;>try cases U
 case kP _=>
  split at U
  case h_2=>cases U
  case h_1 aC aE=>
  split at U
  case isFalse aD=>simp at aD
  case isTrue aD=>
  cases U;have mR:=Ik (P:=P) (w:=w) jE aE;have ain:Nat.min aC 0=0:=Nat.min_zero aC;refine gy.pure aw ⟨.int .i64 0,?_,.int⟩;have hf:∃aF,(Builtin.firstCells size 0 bK).run P w=.ok aF w:=by
   cases jE<;>simp only[mM]at aE<;>try cases aE
   ·exact⟨_,rfl⟩
   ·exact⟨_,rfl⟩
   ·simp_all[Builtin.firstCells,loadCells,loadCellsFrom]
   simp_all[Builtin.firstCells,loadCells,loadCellsFrom]
  obtain⟨aF,hf⟩:=hf;simp only[Builtin.copy_,List.getElem?_toArray,List.getElem?_cons_zero,List.getElem?_cons_succ,Sem.run_bind,run_underlying bc,Result.andThen_ok,mR,n9 fj,ain,hf,Sem.run_pure];rfl
 case n7 id off len px c o s a dU rB jD _=>
  split at U
  case h_2=>cases U
  case h_1 aC aE=>
  have mR:=Ik (P:=P) (w:=w) jE aE;split at U
  case isTrue aN=>
   cases U;have aN:=eq_of_beq_eq_true aN;have hf:∃aF:List Value,(Builtin.firstCells size 0 bK).run P w=.ok aF.toArray w/\aF.length=0:=by
    cases jE<;>simp only[mM]at aE<;>try cases aE
    ·rename_i tZ _ _;exact⟨[],by show Result.ok ((tZ.extract 0 0).data.map fun b=>Value.int .u8 b.toNat) w=_;simp_all,rfl⟩
    ·exact⟨[],rfl,rfl⟩
    ·simp_all[Builtin.firstCells,loadCells,loadCellsFrom]
    simp_all[Builtin.firstCells,loadCells,loadCellsFrom]
   obtain⟨aF,hf,tY⟩:=hf;obtain rfl:=length_eq_zero_iff.1 tY;refine gy.pure aw ⟨.int .i64 0,?_,.int⟩;simp only[Builtin.copy_,List.getElem?_toArray,List.getElem?_cons_zero,List.getElem?_cons_succ,Sem.run_bind,run_underlying bc,Result.andThen_ok,mR,n9 fj,aN,hf,Sem.run_pure];rfl
  case isFalse aN=>
   have aN:Nat.min aC len≠0:=fun e=>by simp_all
   split at U
   case h_2=>cases U
   case h_1 cL da=>
   split at U
   case h_2=>cases U
   case h_1 br aM=>
   cases U;have MQ:Nat.min aC len<=aC:=Nat.min_le_left _ _;have aio:Nat.min aC len<=len:=Nat.min_le_right _ _;obtain⟨pz,eZ,fI,CN⟩:=Il (P:=P) aw qK jE aE MQ da;obtain rfl:a=⟨c,o+off,none⟩:=(jD.resolve_left (by omega)).1;obtain⟨aV,dH,e0,ka⟩:=H9 (P:=P) aw (CO id rfl) aM fI dU H.next;refine⟨.int .i64 (Nat.min aC len),aV,σ,?_,.int,by simp_all⟩;simp only[Builtin.copy_,List.getElem?_toArray,List.getElem?_cons_zero,List.getElem?_cons_succ,Sem.run_bind,run_underlying bc,Result.andThen_ok,mR,n9 fj,eZ,Sem.run_pure,dH];rfl
 case nK id off len px cap c o s a dU rB lg jD _=>
  split at U
  case h_2=>cases U
  case h_1 aC aE=>
  have mR:=Ik (P:=P) (w:=w) jE aE;split at U
  case isTrue aN=>
   cases U;have aN:=eq_of_beq_eq_true aN;have hf:∃aF:List Value,(Builtin.firstCells size 0 bK).run P w=.ok aF.toArray w/\aF.length=0:=by
    cases jE<;>simp only[mM]at aE<;>try cases aE
    ·rename_i tZ _ _;exact⟨[],by show Result.ok ((tZ.extract 0 0).data.map fun b=>Value.int .u8 b.toNat) w=_;simp_all,rfl⟩
    ·exact⟨[],rfl,rfl⟩
    ·simp_all[Builtin.firstCells,loadCells,loadCellsFrom]
    simp_all[Builtin.firstCells,loadCells,loadCellsFrom]
   obtain⟨aF,hf,tY⟩:=hf;obtain rfl:=length_eq_zero_iff.1 tY;refine gy.pure aw ⟨.int .i64 0,?_,.int⟩;simp only[Builtin.copy_,List.getElem?_toArray,List.getElem?_cons_zero,List.getElem?_cons_succ,Sem.run_bind,run_underlying bc,Result.andThen_ok,mR,n9 fj,aN,hf,Sem.run_pure];rfl
  case isFalse aN=>
   have aN:Nat.min aC len≠0:=fun e=>by simp_all
   split at U
   case h_2=>cases U
   case h_1 cL da=>
   split at U
   case h_2=>cases U
   case h_1 br aM=>
   cases U;have MQ:Nat.min aC len<=aC:=Nat.min_le_left _ _;have aio:Nat.min aC len<=len:=Nat.min_le_right _ _;obtain⟨pz,eZ,fI,CN⟩:=Il (P:=P) aw qK jE aE MQ da;obtain rfl:a=⟨c,o+off,none⟩:=by simp_all
   obtain⟨aV,dH,e0,ka⟩:=H9 (P:=P) aw (CO id rfl) aM fI dU H.next;refine⟨.int .i64 (Nat.min aC len),aV,σ,?_,.int,by simp_all⟩;simp only[Builtin.copy_,List.getElem?_toArray,List.getElem?_cons_zero,List.getElem?_cons_succ,Sem.run_bind,run_underlying bc,Result.andThen_ok,mR,n9 fj,eZ,Sem.run_pure,dH];rfl
theorem aip{t cW:TypeId}{x bK v:Value}(aw:jS σ B h w)(qK:tT h H x)(jE:ch σ x bK)(U:(ET P t).f x H=some (v,aa)):
  gy P B (Builtin.clear_ #[t] cW #[bK]) w σ h H v aa:=by
 unfold ET at U;split at U
 case h_2=>cases U
 case h_1 e bc=>
 split at U
 case h_2=>cases U
 case h_1 z dQ=>
 obtain⟨lA,oU⟩:=s6 dQ w;have cQ:bH σ (cZ z) z.cells.toList:=(u2 oU).cells;have MM:∀n,(Builtin.zeroCells z.cells n).toList=fR n z.cells.toList:=fun n=>by grind[Builtin.zeroCells,Ig]
 simp only[yJ]at U;have wr:∀(id off len:Nat) (c o s:Nat) (eZ:σ id=some (c,o,s)) (br:ar),Fe h H id->uQ H id off (fR len (cZ z))=some br->
   ∃aV,(storeCells ⟨c,o+off,none⟩ (Builtin.zeroCells z.cells len).toList).run P w=.ok () aV/\lb B σ h H.next w σ (iW h H br) br.next aV:=by
  intro id off len c o s eZ br bp aM;rw[MM];obtain⟨aV,dH,e0,ka⟩:=H9 (P:=P) aw bp aM (cQ.fR len) eZ H.next
  simp_all
 cases jE<;>simp only at U<;>try cases U
 case kP _=>exact gy.pure aw ⟨.tuple #[],by simp[Builtin.clear_,run_underlying bc],.tuple _ _ .nil .nil⟩
 case n7 id off len px c o s a dU rB jD _=>
  split at U
  ·rename_i aN;cases U;have aN:=eq_of_beq_eq_true aN;subst aN;exact gy.pure aw ⟨.tuple #[],by simp[Builtin.clear_,run_underlying bc],.tuple _ _ .nil .nil⟩
  ·rename_i aN;have aN:len≠0:=fun e=>by simp_all
   split at U
   case h_2=>cases U
   case h_1 br aM=>
   cases U;obtain rfl:a=⟨c,o+off,none⟩:=(jD.resolve_left aN).1;obtain⟨aV,dH,e0⟩:=wr id off len c o s dU _ (qK id rfl) aM;refine⟨.tuple #[],aV,σ,?_,.tuple _ _ .nil .nil,e0⟩;obtain⟨m,rfl⟩:∃m,len=m+1:=⟨len-1,by omega⟩;simp[Builtin.clear_,run_underlying bc,lA,dH]
 case nK id off len px cap c o s a dU rB lg jD _=>
  split at U
  ·rename_i aN;cases U;have aN:=eq_of_beq_eq_true aN;subst aN;exact gy.pure aw ⟨.tuple #[],by simp[Builtin.clear_,run_underlying bc],.tuple _ _ .nil .nil⟩
  ·rename_i aN;have aN:len≠0:=fun e=>by simp_all
   split at U
   case h_2=>cases U
   case h_1 br aM=>
   cases U;obtain rfl:a=⟨c,o+off,none⟩:=by simp_all
   obtain⟨aV,dH,e0⟩:=wr id off len c o s dU _ (qK id rfl) aM;refine⟨.tuple #[],aV,σ,?_,.tuple _ _ .nil .nil,e0⟩;obtain⟨m,rfl⟩:∃m,len=m+1:=⟨len-1,by omega⟩;simp[Builtin.clear_,run_underlying bc,lA,dH]
theorem aiq{t cW:TypeId}{x bK v:Value}(jE:ch σ x bK)(U:(ES P t).f x H=some (v,aa)):
  aa=H/\∃aH,(Builtin.len_ #[t] cW #[bK]).run P w=.ok aH w/\ch σ v aH:=by
 unfold ES at U;cases bc:P.underlying t with
 | none=>simp_all
 | some iL=>
  rw[bc]at U;cases iL<;>simp only at U<;>first|(cases U;done)|skip
  case array n e=>cases U;exact⟨rfl,_,by simp[Builtin.len_,run_underlying bc];rfl,.int⟩
  case string=>
   cases jE<;>simp only at U<;>cases U;rename_i s _;refine⟨rfl,.int .i64 (Int.ofNat (fG s.data.toList)),?_,.int⟩;have:fG s.data.toList=s.size:=by simp_all[gE]
   simp_all[Builtin.len_,run_underlying,goInt]
  case slice e=>
   cases jE<;>simp only at U<;>cases U
   all_goals exact⟨rfl,_,by simp[Builtin.len_,run_underlying bc,goInt],.int⟩
theorem T9:∀(l aF:List Value) (x:Int) (k:IntKind) (v:Value),bH σ l aF->HM x l k=some v->(List.foldlM Builtin.min2 (.int k x) aF).run P w=.ok v w/\ch σ v v
 | [],aF,x,k,v,hv,U=>by rw[hv.qI];cases U;exact⟨rfl,.int⟩
 | y::r,aF,x,k,v,hv,U=>by
  obtain⟨eG,dx,rfl,a8,gg⟩:=hv.mP;unfold HM at U;cases y<;>simp only at U<;>try cases U
  rename_i hl n;rw[a8.n8];have a7:=T9 r dx _ k v gg U;simp only[foldlM_cons,Sem.run_bind];have e:(Builtin.min2 (.int k x) (.int hl n)).run P w=.ok (.int k (cond (j7 x n) x n)) w:=by
   simp only[Builtin.min2,Sem.run_pure]
   congr 2
   rw[k9]
   grind
  simp_all
theorem Ua:∀(l aF:List Value) (x:Int) (k:IntKind) (v:Value),bH σ l aF->HN x l k=some v->(List.foldlM Builtin.max2 (.int k x) aF).run P w=.ok v w/\ch σ v v
 | [],aF,x,k,v,hv,U=>by rw[hv.qI];cases U;exact⟨rfl,.int⟩
 | y::r,aF,x,k,v,hv,U=>by
  obtain⟨eG,dx,rfl,a8,gg⟩:=hv.mP;unfold HN at U;cases y<;>simp only at U<;>try cases U
  rename_i hl n;rw[a8.n8];have a7:=Ua r dx _ k v gg U;simp only[foldlM_cons,Sem.run_bind];have e:(Builtin.max2 (.int k x) (.int hl n)).run P w=.ok (.int k (cond (j7 n x) x n)) w:=by
   simp only[Builtin.max2,Sem.run_pure]
   congr 2
   rw[k9]
   grind
  simp_all
theorem air{x bK v:Value}(U:rv x=some v)(al:ch σ x bK)(o:Oper)(op:Operand)(bC:o.op=.nilCheck op)(ρ:Operand->Value)(AP:ρ op=bK):
  (execOp ρ o).run P w=.ok (.value bK) w/\ch σ v bK:=by
 unfold rv at U;unfold execOp;rw[bC];simp only[AP];cases al<;>simp only at U<;>cases U;rename_i id off c MR s aN _;exact⟨rfl,.ai _ _ _ _ _ aN .nil⟩;rename_i f x bK y eG h1 h2 _;exact⟨rfl,.func _ _ _ _ _ h1 h2 .nil⟩;rename_i t u od h1 _;exact⟨rfl,.iface _ _ _ h1 .nil⟩
end
end Go.Ab
namespace Go.Ab
open Go
section
variable{P:Program}{σ:cO}{B:Nat}{h:Nat->Option ay}{H:ar}{w:World}
theorem Ip{v aH:Value}{y n:Nat}{AQ:BoundsCode}(hv:ch σ v aH)(U:∃k m,v=.int k m/\0<=m/\m.toNat<=y/\n=m.toNat)(w:World):(Instr.sliceBound aH y AQ).run P w=.ok n w:=by
 obtain⟨k,m,rfl,aN,h1,rfl⟩:=U;rw[hv.n8]
 simp_all[Instr.sliceBound,asIntOf]
theorem Iq{len n:Nat}{v:Value}(U:n2 len (some v)=some n):∃k m,v=.int k m/\0<=m/\m.toNat<=len/\n=m.toNat:=by
 unfold n2 at U;simp only at U;cases v<;>simp only at U<;>try cases U
 rename_i k m;rw[k9,lR]at U
 grind
theorem ais{len n:Nat}{v:Value}(U:qG len (some v)=some n):∃k m,v=.int k m/\0<=m/\m.toNat<=len/\n=m.toNat:=by have:n2 len (some v)=some n:=U;exact Iq this
inductive xq (σ:cO):Option Value->Option Value->Prop
 | none:xq σ none none
 | some {v aH:Value}:ch σ v aH->xq σ (some v) (some aH)
theorem MS{CP:Bool}{len cap l hh:Nat}{nH:Bool}{fc AR aq fJ gK CQ:Option Value}(sf:xq σ fc AR)(CR:xq σ aq fJ)(AS:xq σ gK CQ)(lg:len<=cap)
  (h1:n2 len aq=some hh) (h2:qG hh fc=some l) (aB:r9 hh aq gK=some nH) (w:World):
  ∃m,(Instr.sliceBounds CP len cap AR fJ CQ).run P w=.ok (l,hh,m) w/\l<=hh/\hh<=len/\(m=if nH then hh else cap):=by
 have CS:∀AQ,(match AR with|some v=>Instr.sliceBound v hh AQ|none=>(pure 0:Sem Nat)).run P w=.ok l w/\l<=hh:=by
  intro AQ;cases sf with
  | none=>simp[qG]at h2;subst h2;simp_all
  | some hv=>grind[ais,Ip]
 have Ub:hh<=len:=by
  cases aq with
  | none=>simp_all[n2]
  | some v=>grind[Iq]
 cases AS with
 | none=>
  simp[r9]at aB;subst aB;refine⟨cap,?_,(CS .sliceB).2,Ub,by simp⟩;cases CR with
  | none=>simp[n2]at h1;subst h1;simp only[Instr.sliceBounds,Sem.run_bind,Sem.run_pure,Result.andThen_ok,Option.isSome_none,Bool.false_eq_true,if_false];have:=(CS .sliceB).1;cases sf<;>simp only at this⊢ <;>(try rw[this])<;>simp_all
  | some hv=>have an:=Iq h1;obtain⟨k,m,e,bO,q2,dz⟩:=an;have U:=Ip (P:=P) (y:=cap) (n:=hh) (AQ:=if CP then .sliceAcap else .sliceAlen) hv ⟨k,m,e,bO,by omega,dz⟩ w;simp only[Instr.sliceBounds,Sem.run_bind,Sem.run_pure,Result.andThen_ok,Option.isSome_none,Bool.false_eq_true,if_false,U];have:=(CS .sliceB).1;cases sf<;>simp only at this⊢ <;>(try rw[this])<;>simp_all
 | some Fi=>
  rename_i l3 aCt;unfold r9 at aB;simp only at aB;cases l3<;>simp only at aB<;>try cases aB
  rename_i mk ait;cases CR with
  | none=>cases aB
  | some hv=>
   simp only at aB;split at aB
   case h_2=>cases aB
   case h_1 Fj=>
   split at aB
   case h_2=>cases aB
   case h_1 u5=>
   cases aB;rw[k9]at Fj;have Fj:=of_decide_eq_true Fj;have u5:=eq_of_beq_eq_true u5;obtain⟨k,m,e,bO,q2,dz⟩:=Iq h1;refine⟨hh,?_,(CS .slice3C).2,Ub,by simp⟩;have r1:=Ip (P:=P) (y:=cap) (n:=hh) (AQ:=if CP then .slice3Acap else .slice3Alen) Fi ⟨mk,ait,rfl,Fj,by omega,u5.symm⟩ w;have r2:=Ip (P:=P) (y:=hh) (n:=hh) (AQ:=.slice3B) hv ⟨k,m,e,bO,by omega,dz⟩ w;simp only[Instr.sliceBounds,Sem.run_bind,r1,r2,Result.andThen_ok,Option.isSome_some,if_true];have:=(CS .slice3C).1;cases sf<;>simp only at this⊢ <;>(try rw[this])<;>simp_all
theorem Uc{size l hh m cap:Nat}{nH:Bool}{a:Option Addr}{cq:Option Addr}{v:Value}(bS:0<size)(U:ru size a l hh nH=some v)(aE:l<=hh)
  (hm:m=if nH then hh else cap) (yV:hh<=cap)
  (bp:match a with
   | none=>cq=none/\hh=0/\cap=0
   | some a=>∃c o s,σ a.block=some (c,o,s)/\cq.isSome=true/\((hh=0/\cap=0)\/(cq=some ⟨c,o+a.off,none⟩/\o+a.off+cap*size<=s))):
  ch σ v (.slice (if m=l then cq else cq.map (·.add (l*size))) (hh-l) (m-l)):=by
 cases a with
 | none=>
  obtain⟨rfl,rfl,rfl⟩:=bp;cases U;have:m=0:=by simp_all
  subst this;have:l=0:=by omega
  subst this;exact .kP .nil
 | some a=>
  obtain⟨id,off,ct⟩:=a;obtain⟨c,o,s,dU,aiu,jD⟩:=bp;obtain⟨c0,rfl⟩:=Option.isSome_iff_exists.1 aiu;cases ct with
  | some _=>cases U
  | none=>
   cases U;have dU:σ id=some (c,o,s):=dU;have u7:∀x,(if m=l then(some c0:Option Addr)else(some c0).map (·.add x))=some (if m=l then c0 else c0.add x):=fun x=>by grind
   rw[u7];cases nH with
   | true=>
    simp only[if_true]at hm;subst hm;refine .n7 id (off+l*size) (m-l) size c o s _ dU bS ?_ .nil;by_cases yY:m=l;omega;right;rcases jD with⟨h1,h2⟩|⟨h1,h2⟩
    omega;rw[if_neg yY];cases h1;refine⟨by grind[CE],?_⟩;have bb:l*size+(m-l)*size=m*size:=by rw[<- Nat.add_mul];simp_all
    have bt:=mul_le_mul_right size yV
    grind
   | false=>
    simp only[Bool.false_eq_true,if_false]at hm;subst hm;refine .nK id (off+l*size) (hh-l) size (m-l) c o s _ dU bS (by omega) ?_ .nil;by_cases yY:m=l;omega;left;rcases jD with⟨h1,h2⟩|⟨h1,h2⟩
    omega;rw[if_neg yY];cases h1;refine⟨by grind[CE],?_⟩;have bb:l*size+(m-l)*size=m*size:=by rw[<- Nat.add_mul];grind
    grind
theorem aiv{t:TypeId}{x bK v:Value}{fc AR aq fJ gK CQ:Option Value}(aw:jS σ B h w)(qK:(∃n e,P.underlying t=some (.array n e))->tT h H x)(al:ch σ x bK)(sf:xq σ fc AR)(CR:xq σ aq fJ)(AS:xq σ gK CQ)
  (U:(HO P t).f x fc aq gK H=some v):∃aH,(Instr.sliceAt t bK AR fJ CQ).run P w=.ok aH w/\ch σ v aH:=by
 unfold HO at U;cases bc:P.underlying t with
 | none=>simp_all
 | some iL=>
  rw[bc]at U;cases iL<;>simp only at U<;>first|(cases U;done)|skip
  case string=>
   unfold yK at U;cases x<;>simp only at U<;>first|(cases U;done)|skip
   rename_i s;rw[al.yU];cases gK with
   | some _=>cases U
   | none=>
    cases AS;simp only at U;cases h1:n2 (fG s.data.toList) aq with
    | none=>simp_all
    | some hh=>
     rw[h1]at U;simp only at U;cases h2:qG hh fc with
     | none=>simp_all
     | some l=>
      rw[h2]at U;cases U;have hlen:fG s.data.toList=s.size:=by simp_all[gE]
      rw[hlen]at h1;obtain⟨m,b1,b2,hB,ml⟩:=MS (P:=P) (CP:=false) sf CR .none (Nat.le_refl s.size) h1 h2 (nH:=false) rfl w;refine⟨.string (s.extract l hh),?_,?_⟩
      ·simp only[Instr.sliceAt,Instr.slice,Sem.run_bind,run_underlying bc,Result.andThen_ok,Option.isSome_none,Bool.false_eq_true,if_false,Sem.run_pure,b1]
      ·have:(⟨(p1 (qD s.data.toList l) (hh-l)).toArray⟩:ByteArray)=s.extract l hh:=by
        apply ByteArray.ext;apply Array.ext'
        simp_all[mj,nh]
       rw[this];exact .string
  case slice e=>
   cases fj:gD P e with
   | none=>simp_all
   | some size=>
    rw[fj]at U;simp only at U;split at U
    case h_2=>cases U
    case h_1 bS=>
    rw[p7]at bS;have bS:=of_decide_eq_true bS;simp only[gL]at U;cases x<;>simp only at U<;>first|(cases U;done)|skip
    rename_i a len c;split at U
    case h_2=>cases U
    case h_1 hh h1=>
    split at U
    case h_2=>cases U
    case h_1 l h2=>
    split at U
    case h_2=>cases U
    case h_1 nH aB=>
    have ed:∀(cq:Option Addr) (cap:Nat) (gN:Bool),bK=.slice cq len cap->len<=cap->(nH=true->gN=true)->(gN=true->nH=false->hh=cap)->ru size a l hh gN=some v->
      (match a with
       | none=>cq=none/\len=0/\cap=0
       | some a=>∃c o s,σ a.block=some (c,o,s)/\cq.isSome=true/\((len=0/\cap=0)\/(cq=some ⟨c,o+a.off,none⟩/\o+a.off+cap*size<=s)))->
      ∃aH,(Instr.sliceAt t bK AR fJ CQ).run P w=.ok aH w/\ch σ v aH:=by
     intro cq cap gN cJ lg CT aCu rC jD;subst cJ;obtain⟨m,b1,b2,hB,ml⟩:=MS (P:=P) (CP:=true) sf CR AS lg h1 h2 aB w;refine⟨_,?_,Uc (m:=m) (cap:=cap) (cq:=cq) bS rC b2 ?_ (by omega) ?_⟩
     ·simp only[Instr.sliceAt,Instr.slice,Sem.run_bind,run_underlying bc,Result.andThen_ok,b1,n9 fj,Sem.run_pure]
     ·grind
     ·cases a with
      | none=>simp_all
      | some a=>grind
    cases al
    case kP _=>
     have ic:Nat.beq 0 (2*size+1)=false:=by rfl
     rw[ic]at U;simp only[Bool.or_true,beq_refl]at U;exact ed none 0 nH rfl (Nat.le_refl _) id (fun a b=>by simp_all) U ⟨rfl,rfl,rfl⟩
    case n7 id off px cc o s a dU rB jD _=>
     split at U
     case h_1 aD=>
      obtain rfl:px=size:=by grind[eq_of_beq_eq_true]
      refine ed (some a) len (nH||Nat.beq hh len) rfl (Nat.le_refl _) (fun e=>by simp[e]) (fun bb bt=>?_) U ⟨cc,o,s,dU,rfl,?_⟩
      ·simp_all
      simp_all
     case h_2 aD=>
      split at U
      case h_2=>cases U
      case h_1 xo=>
      simp only[Bool.or_eq_true]at xo
      grind[eq_of_beq_eq_true]
    case nK id off px cap cc o s a dU rB lg jD _=>
     split at U
     case h_1 aD=>grind[eq_of_beq_eq_true]
     case h_2 aD=>
      split at U
      case h_2=>cases U
      case h_1 xo=>
      simp only[Bool.or_eq_true]at xo;obtain rfl:px=size:=by grind[eq_of_beq_eq_true]
      refine ed (some a) cap nH rfl lg (fun e=>e) (fun bb bt=>by simp_all) U ⟨cc,o,s,dU,rfl,?_⟩
      grind
  case array n e=>
   cases fj:gD P e with
   | none=>simp_all
   | some size=>
    rw[fj]at U;simp only at U;split at U
    case h_2=>cases U
    case h_1 bS=>
    rw[p7]at bS;have bS:=of_decide_eq_true bS;simp only[l1]at U;cases x<;>simp only at U<;>first|(cases U;done)|skip
    rename_i a;cases a with
    | none=>cases U
    | some a=>
     obtain⟨id,off,ct⟩:=a;obtain⟨rfl,c,o,s,rfl,dU⟩:=al.Fb;simp only at U;split at U
     case h_1=>cases U
     case h_2 b hg=>
     split at U
     case h_1=>cases U
     case h_2 CM=>
     rw[lR,gE]at CM;have CM:=of_decide_eq_true CM;split at U
     case h_2=>cases U
     case h_1 hh h1=>
     split at U
     case h_2=>cases U
     case h_1 l h2=>
     split at U
     case h_2=>cases U
     case h_1 nH aB=>
     obtain⟨b5,dd,cn,db,cW,ec,bb,bt,dZ,iX,h0,_⟩:=aw.fC id b (qK ⟨_,_,bc⟩ id rfl b hg);rw[dU]at bb;cases bb;obtain⟨m,b1,b2,hB,ml⟩:=MS (P:=P) (CP:=false) sf CR AS (Nat.le_refl n) h1 h2 aB w;refine⟨_,?_,Uc (m:=m) (cap:=n) (cq:=some ⟨c,o+off,none⟩) bS U b2 ?_ hB ⟨c,o,s,dU,rfl,.inr ⟨rfl,by grind⟩⟩⟩
     ·simp only[Instr.sliceAt,Instr.sureAddr,Sem.run_bind,run_underlying bc,Result.andThen_ok,Sem.run_pure,b1,n9 fj]
      grind
     grind[eq_of_beq_eq_true]
end
end Go.Ab
namespace Go.Ab
open Go
section
variable{P:Program}{σ:cO}{B:Nat}{h:Nat->Option ay}{H aa:ar}{w:World}
theorem MT{o:Nat}{x bK v:Value}(al:ch σ x bK)(U:bF o x=some v):∃a,bK=.pointer (some a)/\ch σ v (.pointer (some (a.add o))):=by
 unfold bF at U;cases x<;>simp only at U<;>first|(cases U;done)|skip
 rename_i a;cases a with
 | none=>cases U
 | some a=>obtain⟨id,off,ct⟩:=a;obtain⟨rfl,c,q,s,rfl,dU⟩:=al.Fb;cases U;refine⟨_,rfl,?_⟩;rw[CE,Nat.add_assoc];exact .ai id (off+o) c q s dU .nil
theorem aiw{s:TypeId}{f:Nat}{x bK v:Value}(al:ch σ x bK)(U:(yL P s f).f x=some v)(w:World):∃aH,(Instr.fieldAt s bK f).run P w=.ok aH w/\ch σ v aH:=by
 unfold yL at U;split at U
 case h_2=>cases U
 case h_1 mL bc=>
 split at U
 case h_2=>cases U
 case h_1 ck hf=>
 split at U
 case h_1=>cases U
 case h_3=>cases U
 case h_2 n AN fj=>
 have aR:n≠0:=fun e=>AN e
 obtain⟨a,rfl,hv⟩:=MT al U
 simp_all[Instr.fieldAt,run_underlying,Instr.sureAddr,fieldPlace,n9]
theorem Ud{n:Nat}{x i v:Value}{size:Nat}(U:eO n size x i=some v):∃k j,i=.int k j/\0<=j/\j.toNat<n/\bF (j.toNat*size) x=some v:=by
 unfold eO at U;cases i<;>simp only at U<;>first|(cases U;done)|skip
 rename_i k j;rw[k9,p7]at U
 grind
theorem aix{t:TypeId}{x bK i tN v:Value}(al:ch σ x bK)(aq:ch σ i tN)(U:(HQ P t).f x i=some v)(w:World):∃aH,(Instr.indexAt t bK tN).run P w=.ok aH w/\ch σ v aH:=by
 unfold HQ at U;cases bc:P.underlying t with
 | none=>simp_all
 | some iL=>
  rw[bc]at U;cases iL<;>simp only at U<;>first|(cases U;done)|skip
  case array n e=>
   cases fj:gD P e with
   | none=>simp_all
   | some size=>
    rw[fj]at U;obtain⟨k,j,rfl,aN,h1,h2⟩:=Ud U;rw[aq.n8];obtain⟨a,rfl,hv⟩:=MT al h2;refine⟨_,?_,hv⟩;simp only[Instr.indexAt,asIntOf,Sem.run_bind,Sem.run_pure,Result.andThen_ok,run_underlying bc,Instr.sureAddr]
    simp_all[n9]
  case slice e=>
   cases fj:gD P e with
   | none=>simp_all
   | some size=>
    rw[fj]at U;simp only[gd]at U;cases x<;>simp only at U<;>first|(cases U;done)|skip
    rename_i a n c;obtain⟨k,j,rfl,aN,h1,h2⟩:=Ud U;rw[aq.n8];have ed:∀(cq:Addr) (MU ua:Nat),bK=.slice (some cq) MU ua->MU=n->ch σ (.pointer a) (.pointer (some cq))->∃aH,(Instr.indexAt t bK (.int k j)).run P w=.ok aH w/\ch σ v aH:=by
     intro cq MU ua bb bt bS;subst bb;subst bt;obtain⟨c2,dZ,hv⟩:=MT bS h2;cases dZ;refine⟨_,?_,hv⟩;simp only[Instr.indexAt,asIntOf,Sem.run_bind,Sem.run_pure,Result.andThen_ok,run_underlying bc,Instr.sureAddr]
     simp_all[n9]
    cases al
    case kP _=>omega
    case n7 id off px cc o s a dU rB jD _=>
     rcases jD with rfl|⟨rfl,_⟩
     ·omega
     ·exact ed _ _ _ rfl rfl (.ai _ _ _ _ _ dU .nil)
    case nK id off px cap cc o s a dU rB lg jD _=>
     rcases jD with⟨rfl,_⟩|⟨rfl,_⟩
     ·exact ed _ _ _ rfl rfl (.ai _ _ _ _ _ dU .nil)
     omega
theorem Ue{t:TypeId}{ao:List Value}{bu:Array Value}{off:Nat}{v:Value}(aD:bH σ ao bu.toList)(U:(Cu P t).f ao off=some v)(w:World):
  ∃aH,(part t bu off).run P w=.ok aH w/\ch σ v aH:=by
 refine Fc aD ?_ w
 grind[Cu,sY]
theorem aiy{t:TypeId}{x bK i tN v:Value}(al:ch σ x bK)(aq:ch σ i tN)(U:(HS P t).f x i=some v)(w:World):∃aH,(Instr.index t bK tN).run P w=.ok aH w/\ch σ v aH:=by
 unfold HS at U;cases bc:P.underlying t with
 | none=>simp_all
 | some iL=>
  rw[bc]at U;cases iL<;>simp only at U<;>first|(cases U;done)|skip
  case array n e=>
   cases fj:gD P e with
   | none=>simp_all
   | some size=>
    rw[fj]at U;simp only[HR]at U;cases x<;>simp only at U<;>first|(cases U;done)|skip
    rename_i ao;cases i<;>simp only at U<;>first|(cases U;done)|skip
    rename_i k j;rw[aq.n8];obtain⟨bu,rfl,oV⟩:=al.CG;rw[k9,p7]at U;split at U
    case h_2=>cases U
    case h_1 aN=>
    split at U
    case h_2=>cases U
    case h_1 h1=>
    have aN:=of_decide_eq_true aN;have h1:=of_decide_eq_true h1;obtain⟨aH,cC,bw⟩:=Ue oV U w
    simp_all[Instr.index,asIntOf,run_underlying,n9]
  case string=>
   simp only[EU]at U;cases x<;>simp only at U<;>first|(cases U;done)|skip
   rename_i s;cases i<;>simp only at U<;>first|(cases U;done)|skip
   rename_i k j;rw[al.yU,aq.n8];rw[k9]at U;split at U
   case h_2=>cases U
   case h_1 aN=>
   have aN:=of_decide_eq_true aN;rw[u1]at U;cases an:s.data.toList[j.toNat]? with
   | none=>simp_all
   | some b=>
    rw[an]at U;cases U;refine⟨.int .u8 b.toNat,?_,.int⟩;have:s[j.toNat]?=some b:=by
     have jl:s.data[j.toNat]?=some b:=by simp_all
     obtain⟨dy,Fk⟩:=Array.getElem?_eq_some_iff.1 jl;rw[getElem?_pos s j.toNat dy];exact congrArg some Fk
    simp_all[Instr.index,asIntOf,run_underlying]
theorem aiz{t:TypeId}{f:Nat}{x bK v:Value}(al:ch σ x bK)(U:(HT P t f).f x=some v)(w:World):∃aH,(Instr.field t bK f).run P w=.ok aH w/\ch σ v aH:=by
 unfold HT at U;split at U
 case h_2=>cases U
 case h_1 mL bc=>
 split at U
 case h_2=>cases U
 case h_1 ck hf=>
 simp only at U;cases x<;>simp only at U<;>first|(cases U;done)|skip
 rename_i ao;obtain⟨bu,rfl,oV⟩:=al.CG;obtain⟨aH,cC,bw⟩:=Ue oV U w
 simp_all[Instr.field,run_underlying,asAgg]
theorem aiA{t a:TypeId}{ok:Bool}{x bK v:Value}(al:ch σ x bK)(U:(Ap P a ok).f x=some v)(w:World):∃aH,(Instr.typeAssert bK t a ok).run P w=.ok aH w/\ch σ v aH:=by
 unfold Ap at U;have MV:∀(u od:Value) (b:Bool),ch σ u od->ch σ (.tuple #[u,.bool b]) (.tuple #[od,.bool b]):=fun u od b bc=>.tuple _ _ (bc.cons (.bool b .nil)) .nil
 cases bc:P.underlying a with
 | none=>simp_all
 | some iL=>
  have u3:(match iL with|.interface _=>true|_=>false)=false:=by cases iL<;>first|rfl|simp_all
  have ie:(if ok then(⟨mi a (hX P a)⟩:HP)else⟨yN a⟩).f x=some v:=by grind
  clear U;cases ok with
  | true=>
   simp only[if_true,mi]at ie;cases al<;>simp only at ie<;>first|(cases ie;done)|skip
   case nilIface _=>
    cases dQ:hX P a with
    | none=>simp_all
    | some z=>rw[dQ]at ie;cases ie;obtain⟨lA,oU⟩:=s6 dQ w;refine⟨.tuple #[z,.bool false],?_,MV _ _ _ (u2 oU)⟩;cases iL<;>first|(cases u3;done)|(simp[Instr.typeAssert,run_underlying bc,lA])
   case iface u aiB MW h1 _=>
    split at ie
    ·rename_i he;cases ie;have he:=eq_of_beq_eq_true he;subst he;refine⟨.tuple #[MW,.bool true],?_,MV _ _ _ h1⟩;cases iL<;>first|(cases u3;done)|(simp[Instr.typeAssert,run_underlying bc])
    ·rename_i he;have he:u≠a:=fun e=>by simp_all
     cases dQ:hX P a with
     | none=>simp_all
     | some z=>rw[dQ]at ie;cases ie;obtain⟨lA,oU⟩:=s6 dQ w;refine⟨.tuple #[z,.bool false],?_,MV _ _ _ (u2 oU)⟩;cases iL<;>first|(cases u3;done)|(simp[Instr.typeAssert,run_underlying bc,lA,he])
  | false=>
   simp only[Bool.false_eq_true,if_false,yN]at ie;cases al<;>simp only at ie<;>first|(cases ie;done)|skip
   case iface u aiB MW h1 _=>
    split at ie
    ·rename_i he;cases ie;have he:=eq_of_beq_eq_true he;subst he;refine⟨MW,?_,h1⟩;cases iL<;>first|(cases u3;done)|(simp[Instr.typeAssert,run_underlying bc])
    grind
theorem MX:∀(l aF:List Value) (m:List UInt8),bH σ l aF->uU l=some m->aF=l
 | [],aF,m,hv,_=>by rw[hv.qI]
 | y::r,aF,m,hv,hm=>by
  obtain⟨eG,dx,rfl,a8,gg⟩:=hv.mP;unfold uU at hm;cases y<;>simp only at hm<;>first|(cases hm;done)|skip
  rename_i k n;cases k<;>simp only at hm<;>first|(cases hm;done)|skip
  cases p4:uU r with
  | none=>rw[p4]at hm;cases hm
  | some dE=>rw[a8.n8,MX r dx dE gg p4]
theorem Uf:∀(l:List Value) (m:List UInt8) (hC:ByteArray),uU l=some m->(forIn (m:=Sem) l hC (fun c r=>(match c with
   | .int .u8 n=>(pure (ForInStep.yield (r.push (UInt8.ofNat n.toNat))):Sem (ForInStep ByteArray))
   | _=>do stuck "bytesToString: byte expected";pure (ForInStep.yield r)))).run P w= .ok ⟨(hC.data.toList++m).toArray⟩ w
 | [],m,hC,hm=>by cases hm;simp
 | y::r,m,hC,hm=>by
  unfold uU at hm;cases y<;>simp only at hm<;>first|(cases hm;done)|skip
  rename_i k n;cases k<;>simp only at hm<;>first|(cases hm;done)|skip
  cases p4:uU r with
  | none=>rw[p4]at hm;cases hm
  | some dE=>
   rw[p4]at hm;simp at hm;subst hm;simp only[forIn_cons,Sem.run_bind,Sem.run_pure,Result.andThen_ok];have a7:=Uf r dE (hC.push (UInt8.ofNat n.toNat)) p4;rw[a7];have e:(hC.push (UInt8.ofNat n.toNat)).data.toList=hC.data.toList++[UInt8.ofNat n.toNat]:=by show(hC.data.push _).toList=_;simp
   rw[e];simp
theorem aiC(w:World)(db:Array Value)(t:TypeId):World.freeze {w with heap:=w.heap.push (.cells db t (0,0))} {block:=w.heap.size,off:=db.size} 1=
  {w with heap:=w.heap.push (.cells db t (db.size,db.size+1))}:=by
 unfold World.freeze;rw[if_neg (by omega)]
 congr 1
 grind
theorem aiD{tG dst:TypeId}{x bK v:Value}(aw:jS σ B h w)(dP:B<=w.heap.size)(eW:∀i,H.next<=i->i<aa.next->σ i=none)(qK:(∃e,P.underlying tG=some (.slice e))->tT h H x)(al:ch σ x bK)(U:(Ak P tG dst).f x H=some (v,aa)):
  gy P B (convert tG dst bK) w σ h H v aa:=by
 unfold Ak at U;cases aO:P.underlying dst with
 | none=>simp_all
 | some aiE=>
  rw[aO]at U;cases aiE<;>simp only at U<;>first|(cases U;done)|skip
  case int k=>
   split at U
   case h_2=>cases U
   case h_1 aCv pA=>
   simp only at U;cases x<;>simp only at U<;>first|(cases U;done)|skip
   rename_i hl n;cases U;rw[al.n8];refine gy.pure aw ⟨.int k (iJ k n),?_,.int⟩;rw[tR];simp only[convert,Sem.run_bind,run_underlying pA,run_underlying aO,Result.andThen_ok];rfl
  case string=>
   cases pA:P.underlying tG with
   | none=>simp_all
   | some aI=>
    rw[pA]at U;cases aI<;>simp only at U<;>first|(cases U;done)|skip
    case string=>
     cases x<;>simp only at U<;>first|(cases U;done)|skip
     cases U;rw[al.yU];refine gy.pure aw ⟨_,?_,.string⟩
     simp_all[convert,run_underlying]
    case slice e=>
     split at U
     case isFalse=>cases U
     case isTrue AT=>
     have CU:P.underlying e=some (.int .u8):=by grind[Cq]
     simp only[n1]at U;have step:∀(a:Addr) (len cap:Nat) (l:List Value) (m:List UInt8),bK=.slice (some a) len cap->(loadCells a len).run P w=.ok l.toArray w->uU l=some m->
       (convert tG dst bK).run P w=.ok (.string ⟨m.toArray⟩) w:=by
      intro a len cap l m bb bt dZ;subst bb;have ig:=Uf (P:=P) (w:=w) l m ByteArray.empty dZ;simp only[convert,Sem.run_bind,run_underlying pA,run_underlying aO,Result.andThen_ok,run_underlying CU,Conv.bytesToString,bt];rw[<- Array.forIn_toList];exact congrArg (fun r:Result ByteArray=>r.andThen fun a aV=>Sem.run P (pure (Value.string a)) aV) ig
     cases al<;>simp only at U<;>first|(cases U;done)|skip
     case kP _=>cases U;refine gy.pure aw ⟨.string ⟨#[]⟩,?_,.string⟩;simp only[convert,Sem.run_bind,run_underlying pA,run_underlying aO,Result.andThen_ok,run_underlying CU,Conv.bytesToString,Sem.run_pure];rfl
     case n7 id off len px c o s a dU rB jD _=>
      split at U
      case isTrue aN=>cases U;have aN:=eq_of_beq_eq_true aN;subst aN;exact gy.pure aw ⟨_,step a 0 0 [] [] rfl (by rfl) rfl,.string⟩
      case isFalse aN=>
       have aN:len≠0:=fun e=>by simp_all
       obtain⟨rfl,_⟩:=jD.resolve_left aN;split at U
       case h_2=>cases U
       case h_1 l aE=>
       split at U
       case h_2=>cases U
       case h_1 m hm=>
       cases U;obtain⟨aF,bO,q2,dz⟩:=AJ (P:=P) aw (qK ⟨_,pA⟩ id rfl) aE dU;rw[MX _ _ _ q2 hm]at bO;exact gy.pure aw ⟨_,step _ _ _ l m rfl bO hm,.string⟩
     case nK id off len px cap c o s a dU rB lg jD _=>
      split at U
      case isTrue aN=>cases U;have aN:=eq_of_beq_eq_true aN;subst aN;exact gy.pure aw ⟨_,step a 0 cap [] [] rfl (by rfl) rfl,.string⟩
      case isFalse aN=>
       have aN:len≠0:=fun e=>by simp_all
       obtain rfl:a=⟨c,o+off,none⟩:=by simp_all
       split at U
       case h_2=>cases U
       case h_1 l aE=>
       split at U
       case h_2=>cases U
       case h_1 m hm=>
       cases U;obtain⟨aF,bO,q2,dz⟩:=AJ (P:=P) aw (qK ⟨_,pA⟩ id rfl) aE dU;rw[MX _ _ _ q2 hm]at bO;exact gy.pure aw ⟨_,step _ _ _ l m rfl bO hm,.string⟩
  case slice e=>
   cases pA:P.underlying tG with
   | none=>simp_all
   | some aI=>
    rw[pA]at U;cases aI<;>simp only at U<;>first|(cases U;done)|skip
    case string=>
     split at U
     case isFalse=>cases U
     case isTrue AT=>
     have CU:P.underlying e=some (.int .u8):=by grind[Cq]
     simp only[Aj]at U;cases x<;>simp only at U<;>first|(cases U;done)|skip
     rename_i s;rw[al.yU]
     let cap:=(Question.appendCap s.size 0 e).cut (w.tape w.drawn (.appendCap s.size 0 e))
     let pB:List Value:=s.data.toList.map vS
     let dO:List Value:=List.replicate (cap-s.size) (.int .u8 0)
     have yV:s.size<=cap:=by show s.size<=s.size+_;omega
     have hlen:pB.length+dO.length=cap:=by
      have:pB.length=s.size:=by simp[pB]
      grind
     obtain⟨τ,id,rfl,lz,hg⟩:=CJ (bu:=pB) (dO:=dO) aw dP eW (bH.TL .u8 (fun b:UInt8=>((b.toNat:Nat):Int)) s.data.toList) e (cap,cap+1) ⟨by simp,by grind⟩ (w.drawn+1) U;refine⟨.slice (some ⟨w.heap.size,0,none⟩) s.size cap,_,τ,?_,?_,hg⟩
     ·have bb:(s.data.map fun b=>Value.int .u8 b.toNat)++Array.replicate (cap-s.size) (.int .u8 0)=(pB++dO).toArray:=by grind[vS]
      have fj:(pB++dO).toArray.size=cap:=by simp_all
      have cf:(Question.appendCap s.size 0 e).forced=false:=rfl;simp only[convert,Sem.run_bind,run_underlying pA,run_underlying aO,Result.andThen_ok,run_underlying CU,Conv.stringToBytes,run_choose,cf,Bool.false_eq_true,if_false,Sem.run_pure,newRow,run_newObj];have MY:(s.data.map fun b=>Value.int .u8 b.toNat)++Array.replicate ((Question.appendCap s.size 0 e).cut (w.tape w.drawn (.appendCap s.size 0 e))-s.size) (.int .u8 0)=(pB++dO).toArray:=bb;rw[MY];have nk:∀W:World,W.heap=w.heap.push (.cells (pB++dO).toArray e (0,0))->W.shape? w.heap.size=some (e,cap):=by simp_all[World.shape?]
      simp only[markStringish,Sem.run_bind,run_shape,Result.andThen_ok];rw[nk _ rfl];simp only[run_freeze,Result.andThen_ok];have hf:=aiC {w with drawn:=w.drawn+1} (pB++dO).toArray e
      grind
     ·have bt:fG s.data.toList=s.size:=by simp_all[gE]
      rw[bt];rw[hlen]at lz;exact CI (size:=1) lz (by omega) yV (by omega)
    case slice MZ=>
     split at U
     case isFalse=>cases U
     case isTrue AT=>
     rw[Bool.and_eq_true]at AT;obtain⟨AT,xk⟩:=AT;have xk:tG=dst:=eq_of_beq_eq_true xk;have CU:P.underlying e=some (.int .u8):=by grind[Cq]
     simp only[vT]at U;split at U
     case h_2=>cases U
     case h_1 aCw len cc=>
     split at U
     case h_1=>cases U
     case h_2 id off ct=>
     split at U
     case h_1=>cases U
     case h_2=>
     split at U
     case h_1=>cases U
     case h_2 tY=>
     split at U
     case h_2=>cases U
     case h_1 b hg=>
     split at U
     case h_2=>cases U
     case h_1 aCx=>
     cases U;have aM:b.wr=true:=by simp_all[ar.nZ]
     have hlen:len≠0:=fun e=>by simp_all
     have s8:=al;have aiF:∃c o s cap,bK=.slice (some ⟨c,o+off,none⟩) len cap/\σ id=some (c,o,s):=by
      cases al
      case n7=>simp_all
      simp_all
     obtain⟨c,o,s,cap,rfl,dU⟩:=aiF;have an:h id=some b:=qK ⟨_,pA⟩ id rfl b hg;obtain⟨b5,dd,cn,db,cW,ec,bb,bt,_⟩:=aw.fC id b an;rw[dU]at bb;cases bb;have Ir:=ahI (n:=H.next) aw id b an aM c o s db cW ec dU bt;refine⟨_,w.freeze {block:=c,off:=db.size} 1,σ,?_,s8,?_⟩
     ·have aiG:w.shape? c=some (cW,db.size):=by simp_all[World.shape?]
      subst xk;rw[aO]at pA;cases pA;simp only[convert,Sem.run_bind,run_underlying aO,Result.andThen_ok,run_underlying CU,beq_self_eq_true,markStringish,run_shape,aiG,run_freeze,Sem.run_pure]
     simp_all[AB]
end
end Go.Ab
