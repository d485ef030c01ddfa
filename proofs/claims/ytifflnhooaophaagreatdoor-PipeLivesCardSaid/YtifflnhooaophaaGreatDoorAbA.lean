/- texts of the nf, fh behind the mA -/
import Derived.Calls
import Derived.WalkKit
import Derived.ChangeKeysEq
set_option linter.unusedVariables false
set_option linter.unusedSimpArgs false
set_option linter.unusedSectionVars false
open List Nat
namespace Go.Ab
open Go
noncomputable section
inductive Tr (α:Type) where
 | nil
 | lD (l:Tr α) (v:Option α) (r:Tr α)
namespace Tr
variable{α:Type}
def get(t:Tr α):Nat->Option α:=
 Tr.rec (motive:=fun _=>Nat->Option α) (fun _=>Option.none)
  (fun _ v _ DZ D0 n=>Nat.rec (motive:=fun _=>Option α) v (fun k _=>cond (Nat.beq (Nat.mod k 2) 0) (DZ (Nat.div k 2)) (D0 (Nat.div k 2))) n) t
def set(t:Tr α):Nat->Option α->Tr α:=
 Tr.rec (motive:=fun _=>Nat->Option α->Tr α) (fun n v=>Nat.rec (motive:=fun _=>Tr α) (.lD .nil v .nil) (fun _ _=>.nil) n)
  (fun l x r DZ D0 n v=>Nat.rec (motive:=fun _=>Tr α) (.lD l v r) (fun k _=>cond (Nat.beq (Nat.mod k 2) 0) (.lD (DZ (Nat.div k 2) v) x r) (.lD l x (D0 (Nat.div k 2) v))) n) t
end Tr
def qB{α:Type}(l:List α):Nat->List α:=
 List.rec (motive:=fun _=>Nat->List α) (fun _=>[]) (fun x _ bg n=>Nat.rec (motive:=fun _=>List α) [] (fun k _=>x::bg k) n) l
def ry{α:Type}(l:List α):Nat->List α:=
 List.rec (motive:=fun _=>Nat->List α) (fun _=>[]) (fun x r bg n=>Nat.rec (motive:=fun _=>List α) (x::r) (fun k _=>bg k) n) l
def iC{α:Type}(l m:List α):List α:=List.rec (motive:=fun _=>List α) m (fun x _ bg=>x::bg) l
def gi{α:Type}(l:List α):Nat:=List.rec (motive:=fun _=>Nat->Nat) (fun n=>n) (fun _ _ bg n=>bg (Nat.succ n)) l 0
def o1{α:Type}(l:List α):Nat->Option α:=
 List.rec (motive:=fun _=>Nat->Option α) (fun _=>none) (fun x _ bg n=>Nat.rec (motive:=fun _=>Option α) (some x) (fun k _=>bg k) n) l
def kh{α:Type}(p:α->Bool)(l:List α):Bool:=List.rec (motive:=fun _=>Bool) true (fun x _ bg=>cond (p x) bg false) l
def kx(a b:Int):Bool:=Int.rec (motive:=fun _=>Bool) (fun m=>Int.rec (motive:=fun _=>Bool) (fun n=>Nat.ble m n) (fun _=>false) b) (fun m=>Int.rec (motive:=fun _=>Bool) (fun _=>true) (fun n=>Nat.ble n m) b) a
def pD(a b:Int):Bool:=Int.rec (motive:=fun _=>Bool) (fun m=>Int.rec (motive:=fun _=>Bool) (fun n=>Nat.beq m n) (fun _=>false) b) (fun m=>Int.rec (motive:=fun _=>Bool) (fun _=>false) (fun n=>Nat.beq n m) b) a
def cf(l:List Value):Nat->Value:=
 List.rec (motive:=fun _=>Nat->Value) (fun _=>undef) (fun x _ bg n=>Nat.rec (motive:=fun _=>Value) x (fun k _=>bg k) n) l
def hs(l:List Value):Nat->Value->List Value:=
 List.rec (motive:=fun _=>Nat->Value->List Value) (fun _ _=>[]) (fun x r bg n v=>Nat.rec (motive:=fun _=>List Value) (v::r) (fun k _=>x::bg k v) n) l
def u0{α:Type}(p:α->α->Bool)(l:List α):List α->Bool:=
 List.rec (motive:=fun _=>List α->Bool) (fun m=>List.rec (motive:=fun _=>Bool) true (fun _ _ _=>false) m)
  (fun x _ bg m=>List.rec (motive:=fun _=>Bool) false (fun y r _=>cond (p x y) (bg r) false) m) l
def BR(x:Value)(o:Option (List Value)):Option (List Value):=match o with
 | some l=>some (x::l)
 | none=>none
def Oi(n:Nat):List Value->List Value:=
 Nat.rec (motive:=fun _=>List Value->List Value) (fun l=>l) (fun _ bg l=>List.rec (motive:=fun _=>List Value) [] (fun _ r _=>bg r) l) n
def Oj(n:Nat):List Value->Option (List Value):=
 Nat.rec (motive:=fun _=>List Value->Option (List Value)) (fun _=>some []) (fun _ bg l=>List.rec (motive:=fun _=>Option (List Value)) none (fun x r _=>BR x (bg r)) l) n
def Ok(l:List Value)(o n:Nat):Option (List Value):=Oj n (Oi o l)
def Gy(vs:List Value):List Value->Option (List Value):=
 List.rec (motive:=fun _=>List Value->Option (List Value)) (fun l=>some l) (fun v _ bg l=>List.rec (motive:=fun _=>Option (List Value)) none (fun _ r _=>BR v (bg r)) l) vs
def VM(k:List Value->Option (List Value))(n:Nat):List Value->Option (List Value):=
 Nat.rec (motive:=fun _=>List Value->Option (List Value)) k (fun _ bg l=>List.rec (motive:=fun _=>Option (List Value)) none (fun x r _=>BR x (bg r)) l) n
def Ol(l:List Value)(o:Nat)(vs:List Value):Option (List Value):=VM (Gy vs) o l
def u1:IntKind->IntKind->Bool
 | .i64,.i64=>true|.u64,.u64=>true|.u8,.u8=>true|.u32,.u32=>true
 | .i8,.i8=>true|.i16,.i16=>true|.i32,.i32=>true|.u16,.u16=>true
 | _,_=>false
structure ax where
 cells:List Value
 wr:Bool
inductive nz where
 | normal|exit (id:Nat)|ret
inductive wh where
 | ready|busy|over (e:nz)
structure hP where
 T:List Value
 bw:List Tmp
 c9:Code
 body:Code
 st:wh
def nA(l:hP):Bool:=match l.st with
 | .over e=>match e with|.normal=>true|_=>false
 | _=>false
def ki(T:List Value):hP:=⟨T,[],.skip,.skip,.over .normal⟩
def eZ(l:List (Nat×hP))(i:Nat):Option hP:=List.rec (motive:=fun _=>Option hP) none (fun x _ bg=>cond (Nat.beq x.1 i) (some x.2) bg) l
def l7(l:List (Nat×hP))(i:Nat)(v:hP):List (Nat×hP):=List.rec (motive:=fun _=>List (Nat×hP)) [] (fun x r bg=>cond (Nat.beq x.1 i) ((i,v)::r) (x::bg)) l
structure au where
 t:Tr ax
 next:Nat
 dS:Nat
 ed:List (Nat×hP)
def au.get(H:au)(i:Nat):Option ax:=H.t.get i
def au.set(H:au)(i:Nat)(b:Option ax):au:={H with t:=H.t.set i b}
def au.o2(H:au)(i:Nat)(b:ax):Bool:=b.wr&&Nat.ble H.dS i
def au.cY(H:au)(aq:List Value):Option (Nat×au):=
 some (H.next,⟨H.t.set H.next (some ⟨aq,true⟩),Nat.succ H.next,H.dS,H.ed⟩)
def eL:Value->Bool
 | .agg _=>false
 | .tuple _=>false
 | _=>true
def D9:Value->Bool
 | .bool _=>true
 | .int _ _=>true
 | .string _=>true
 | .pointer a=>match a with|none=>true|some _=>false
 | .slice a n c=>match a with|none=>Nat.beq n 0&&Nat.beq c 0|some _=>false
 | .map r=>match r with|none=>true|some _=>false
 | .nilFunc=>true
 | .nilIface=>true
 | .func fn first cap=>match fn with|.func _=>Nat.beq (gi first.toList) 0&&Nat.beq (gi cap.toList) 0|_=>false
 | _=>false
def Ea:Value->Bool
 | .agg aq=>kh D9 aq.toList
 | .tuple vs=>Nat.beq (gi vs.toList) 0
 | v=>D9 v
def dr(v:Value):List Value:=match v with|.agg aq=>aq.toList|v=>[v]
section
variable(P:Program)
def qC(t:TypeId):Option Bool:=match P.underlying t with|some (.struct _)=>some true|some (.array _ _)=>some true|some _=>some false|none=>none
def hk(t:TypeId):Option Nat:=(P.info? t).map (·.size)
def iL(t:TypeId):Option Value:=match P.info? t with
 | some i=>match i.zero with
  | some z=>cond (Ea z) (some z) none
  | none=>none
 | none=>none
def yI(l:List Value)(n:Nat):Option (List Value):=match Nat.beq (gi l) n with|true=>some l|false=>none
def s0(H:au)(id off n:Nat):Option (List Value):=
 match H.get id with
 | some b=>Ok b.cells off n
 | none=>none
def wi(H:au)(id off:Nat)(vs:List Value):Option au:=
 match H.get id with
 | some b=>
  match H.o2 id b&&kh eL vs with
  | true=>match Ol b.cells off vs with
   | some aq=>some (H.set id (some ⟨aq,b.wr⟩))
   | none=>none
  | false=>none
 | none=>none
def wj(gj:Nat->Option (Nat×Nat)):List Value->List (Nat×Value)->Option (List Value)
 | cells,[]=>some cells
 | cells,(i,v)::ef=>
  match gj i with
  | none=>none
  | some (off,size)=>
   let aq:=dr v
   match Nat.beq (gi aq) size&&Nat.ble (off+gi aq) (gi cells)with|true=>wj gj (iC (qB cells off) (iC aq (ry cells (off+gi aq)))) ef|false=>none
def Jm(nB:List Field)(i:Nat):Option (Nat×Nat):=match o1 nB i with
 | some f=>match hk P f.type with
  | some n=>some (f.offset,n)
  | none=>none
 | none=>none
def VN(l:Option (List Value)):Option Value:=match l with
 | some l=>some (.agg l.toArray)
 | none=>none
structure Om where f:List (Nat×Value)->Option Value
def dq(t:TypeId):Om:=
 match iL P t with
 | some z=>match P.underlying t with
  | some (.struct nB)=>match kh (fun f=>(hk P f.type).isSome) nB.toList with
   | true=>⟨fun ie=>VN (wj (Jm P nB.toList) (dr z) ie)⟩
   | false=>⟨fun _=>none⟩
  | some (.array _ e)=>match hk P e with
   | some size=>⟨fun ie=>VN (wj (fun i=>some (i*size,size)) (dr z) ie)⟩
   | none=>⟨fun _=>none⟩
  | _=>⟨fun _=>none⟩
 | none=>⟨fun _=>none⟩
def gv:Nat->List Value->List Value
 | 0,_=>[]
 | n+1,l=>iC l (gv n l)
def tU(t:TypeId)(aq:List Value)(off:Nat):Option Value:=
 match qC P t,hk P t with
 | some true,some n=>some (.agg (qB (ry aq off) n).toArray)
 | some false,some _=>o1 aq off
 | _,_=>none
def eqFields(tV:TypeId->Value->Value->Option Bool)(xs bh:List Value):List Field->Option Bool
 | []=>some true
 | f::bb=>
  if f.name== "_" then none else
  match tU P f.type xs f.offset,tU P f.type bh f.offset with
  | some a,some b=>match tV f.type a b with
   | some true=>eqFields tV xs bh bb
   | r=>r
  | _,_=>none
def Eb(tV:Value->Value->Option Bool)(e:TypeId)(n:Nat)(xs bh:List Value):Nat->Nat->Option Bool
 | 0,_=>some true
 | k+1,i=>
  match tU P e xs (i*n),tU P e bh (i*n)with
  | some a,some b=>match tV a b with
   | some true=>Eb tV e n xs bh k (i+1)
   | r=>r
  | _,_=>none
def oE:Nat->TypeId->Value->Value->Option Bool
 | 0,_,_,_=>none
 | d+1,t,x,y=>
  match P.underlying t,x,y with
  | some .bool,.bool a,.bool b=>some (a==b)
  | some (.int _),.int k a,.int e6 b=>(match u1 k e6 with|true=>some (pD a b)|false=>none)
  | some .string,.string a,.string b=>some (a.data.toList==b.data.toList)
  | some (.pointer _),.pointer none,.pointer b=>some b.isNone
  | some (.pointer _),.pointer (some _),.pointer none=>some false
  | some (.interface _),.nilIface,.nilIface=>some true
  | some (.interface _),.nilIface,.iface _ _=>some false
  | some (.interface _),.iface _ _,.nilIface=>some false
  | some (.slice _),.slice none _ _,.slice b _ _=>some b.isNone
  | some (.slice _),.slice (some _) _ _,.slice none _ _=>some false
  | some (.func _ _ _),.nilFunc,.nilFunc=>some true
  | some (.func _ _ _),.nilFunc,.func _ _ _=>some false
  | some (.func _ _ _),.func _ _ _,.nilFunc=>some false
  | some (.struct nB),.agg xs,.agg bh=>if P.stoodInHeld t then none else eqFields P (oE d) xs.toList bh.toList nB.toList
  | some (.array len e),.agg xs,.agg bh=>match hk P e with
   | some n=>Eb P (oE d e) e n xs.toList bh.toList len 0
   | none=>none
  | _,_,_=>none
def u2(pE iM:Nat)(n:Int):Int:=
 match n with
 | .ofNat m=>match Nat.blt m pE with
  | true=>.ofNat m
  | false=>cond (Nat.blt (m%iM) pE) (.ofNat (m%iM)) (.negSucc (iM-1-m%iM))
 | .negSucc m=>match Nat.blt m pE with
  | true=>.negSucc m
  | false=>cond (Nat.blt (m%iM) pE) (.negSucc (m%iM)) (.ofNat (iM-1-m%iM))
def rz(iM:Nat)(n:Int):Int:=
 match n with
 | .ofNat m=>.ofNat (m%iM)
 | .negSucc m=>.ofNat (iM-1-m%iM)
def iN(k:IntKind)(n:Int):Int:=
 match k with
 | .i64=>u2 9223372036854775808 18446744073709551616 n
 | .u64=>rz 18446744073709551616 n
 | .u8=>rz 256 n
 | .u32=>rz 4294967296 n
 | .u16=>rz 65536 n
 | .i32=>u2 2147483648 4294967296 n
 | .i8=>u2 128 256 n
 | .i16=>u2 32768 65536 n
def o3(k:IntKind)(n:Int):Nat:=
 match k with
 | .i64=>(rz 18446744073709551616 n).toNat
 | .u64=>(rz 18446744073709551616 n).toNat
 | .u8=>(rz 256 n).toNat
 | .u32=>(rz 4294967296 n).toNat
 | .u16=>(rz 65536 n).toNat
 | .i32=>(rz 4294967296 n).toNat
 | .i8=>(rz 256 n).toNat
 | .i16=>(rz 65536 n).toNat
def Jn(op:BinOp):IntKind->Int->Int->Option Value:=
 match op with
 | .add=>fun k a b=>some (.int k (iN k (a+b)))
 | .sub=>fun k a b=>some (.int k (iN k (a-b)))
 | .mul=>fun k a b=>some (.int k (iN k (a*b)))
 | .quo=>fun k a b=>match pD b 0 with|true=>none|false=>some (.int k (iN k (a.tdiv b)))
 | .rem=>fun k a b=>match pD b 0 with|true=>none|false=>some (.int k (a.tmod b))
 | .and=>fun k a b=>some (.int k (iN k (Nat.land (o3 k a) (o3 k b))))
 | .or=>fun k a b=>some (.int k (iN k (Nat.lor (o3 k a) (o3 k b))))
 | .xor=>fun k a b=>some (.int k (iN k (Nat.xor (o3 k a) (o3 k b))))
 | .eql=>fun _ a b=>some (.bool (pD a b))
 | .neq=>fun _ a b=>some (.bool (not (pD a b)))
 | .lss=>fun _ a b=>some (.bool (not (kx b a)))
 | .leq=>fun _ a b=>some (.bool (kx a b))
 | .gtr=>fun _ a b=>some (.bool (not (kx a b)))
 | .geq=>fun _ a b=>some (.bool (kx b a))
 | _=>fun _ _ _=>none
def On(op:BinOp):List UInt8->List UInt8->Option Value:=
 match op with
 | .add=>fun l r=>if Nat.ble (gi l+gi r) 9223372036854775807 then some (.string ⟨(iC l r).toArray⟩)else none
 | .eql=>fun l r=>some (.bool (l==r))
 | .neq=>fun l r=>some (.bool !(l==r))
 | .lss=>fun l r=>some (.bool (Op.bytesLess l r))
 | .leq=>fun l r=>some (.bool (Op.bytesLess l r||l==r))
 | .gtr=>fun l r=>some (.bool !(Op.bytesLess l r||l==r))
 | .geq=>fun l r=>some (.bool !(Op.bytesLess l r))
 | _=>fun _ _=>none
def wk:Operand->Bool
 | .const _=>true
 | _=>false
def wm(t:TypeId)(c:Bool):Value->Value->Bool
 | .nilIface,.nilIface=>c
 | .agg _,.agg _=>!P.eqGuardType P.depth t
 | _,_=>true
def Oo(op:BinOp)(t:TypeId)(c:Bool):Value->Value->Option Value:=
 match op with
 | .eql=>fun a b=>if wm P t c a b then(oE P 100 t a b).map .bool else none
 | .neq=>fun a b=>if wm P t c a b then(oE P 100 t a b).map fun r=>.bool !r else none
 | _=>fun _ _=>none
def BS(left:Bool)(k:IntKind)(a:Int)(b:Int):Option Value:=
 if b<0 then none else
 if left then some (.int k (iN k (a*((2^(min b.toNat k.bits):Nat):Int))))else some (.int k (a.fdiv ((2^(min b.toNat k.bits):Nat):Int)))
def Ec:BinOp->Option Bool
 | .shl=>some true
 | .shr=>some false
 | _=>none
structure Gz where f:Value->Value->Option Value
def ar(op:BinOp)(t:TypeId)(c:Bool):Gz:=
 match Ec op with
 | some l=>⟨fun a b=>match a with
  | .int k a=>match b with|.int _ b=>BS l k a b|_=>none
  | _=>none⟩
 | none=>⟨fun a b=>match a with
  | .int k a=>match b with|.int e6 b=>(match u1 k e6 with|true=>Jn op k a b|false=>none)|_=>none
  | .string a=>match b with|.string b=>On op a.data.toList b.data.toList|_=>none
  | .float _ _=>none
  | .complex _ _ _=>none
  | a=>Oo P op t c a b⟩
def hx(op:UnOp)(x:Value):Option Value:=
 match x with
 | .int k n=>match op with
  | .neg=>some (.int k (iN k (0-n)))
  | .xor=>some (.int k (iN k (Nat.xor (o3 k (if k.signed then-1 else k.max)) (o3 k n))))
  | _=>none
 | .bool b=>match op with
  | .not=>some (.bool !b)
  | _=>none
 | _=>none
def wo:List Value->Option (List UInt8)
 | []=>some []
 | v::r=>match v with
  | .int k n=>match k with
   | .u8=>(wo r).map (UInt8.ofNat n.toNat::·)
   | _=>none
  | _=>none
def xD(b:UInt8):Value:=.int .u8 b.toNat
abbrev R:=Option (Value×au)
def fZ(H:au):Option Value->R
 | some v=>some (v,H)
 | none=>none
def yJ(aq:List Value)(H:au):R:=match H.cY aq with
 | some (id,H)=>some (.pointer (some ⟨id,0,none⟩),H)
 | none=>none
def mB(aq:List Value)(len c:Nat)(H:au):R:=match H.cY aq with
 | some (id,H)=>some (.slice (some ⟨id,0,none⟩) len c,H)
 | none=>none
structure Oq where f:List (Nat×Value)->au->R
def Jo(size len:Nat)(z:List Value)(ie:List (Nat×Value))(H:au):R:=
 match wj (fun i=>some (i*size,size)) (gv len z) ie with
 | some aq=>mB aq len (2*size+1) H
 | none=>none
def eV(t:TypeId)(len:Nat):Oq:=
 match P.underlying t with
 | some (.slice e)=>match hk P e with
  | some size=>match iL P e with
   | some z=>match Nat.ble (len*size) 16777216&&(Nat.blt 0 size&&Nat.beq (gi (dr z)) size)with
    | true=>⟨Jo size len (dr z)⟩
    | false=>⟨fun _ _=>none⟩
   | none=>⟨fun _ _=>none⟩
  | none=>⟨fun _ _=>none⟩
 | _=>⟨fun _ _=>none⟩
structure BT where f:Value->au->R
def BU(x:Value)(H:au):R:=match x with
 | .string s=>mB (s.data.toList.map xD) (gi s.data.toList) 2 H
 | _=>none
def tW(x:Value)(H:au):R:=match x with
 | .slice a len _=>match a with
  | none=>some (.string ⟨#[]⟩,H)
  | some ⟨id,off,cM⟩=>match cM with
   | some _=>none
   | none=>if Nat.beq len 0 then some (.string ⟨#[]⟩,H)else match s0 H id off len with
    | some l=>match wo l with
     | some l=>some (.string ⟨l.toArray⟩,H)
     | none=>none
    | none=>none
 | _=>none
def u3(x:Value)(H:au):R:=match x with
 | .slice a len _=>match a with
  | none=>none
  | some ⟨id,_,cM⟩=>match cM with
   | some _=>none
   | none=>match Nat.beq len 0 with
    | true=>none
    | false=>match H.get id with
     | some b=>match H.o2 id b with
      | true=>some (x,H)
      | false=>none
     | none=>none
 | _=>none
def Ed(e:TypeId):Bool:=match P.underlying e with
 | some (.int .u8)=>true
 | _=>false
def BV(u4 dst:TypeId):BT:=
 match P.underlying dst with
 | some (.int k)=>match P.underlying u4 with
  | some (.int _)=>⟨fun x H=>match x with|.int _ n=>some (.int k (iN k n),H)|_=>none⟩
  | _=>⟨fun _ _=>none⟩
 | some .string=>match P.underlying u4 with
  | some .string=>⟨fun x H=>match x with|.string s=>some (.string s,H)|_=>none⟩
  | some (.slice e)=>if Ed P e then⟨tW⟩else⟨fun _ _=>none⟩
  | _=>⟨fun _ _=>none⟩
 | some (.slice e)=>match P.underlying u4 with
  | some .string=>if Ed P e then⟨BU⟩else⟨fun _ _=>none⟩
  | some (.slice _)=>if Ed P e&&Nat.beq u4 dst then⟨u3⟩else⟨fun _ _=>none⟩
  | _=>⟨fun _ _=>none⟩
 | _=>⟨fun _ _=>none⟩
def tX(H:au)(size n:Nat)(x:Value):Option (List Value):=
 match x with
 | .slice a _ _=>match a with
  | none=>some []
  | some ⟨id,off,cM⟩=>match cM with
   | some _=>none
   | none=>if Nat.beq n 0 then some []else s0 H id off (n*size)
 | .string s=>match Nat.beq size 1 with|true=>some ((qB s.data.toList n).map xD)|false=>none
 | _=>none
def nC:Value->Option Nat
 | .slice _ n _=>some n
 | .string s=>some (gi s.data.toList)
 | _=>none
def yK(n bytes:Nat):Bool:=Nat.ble ((2*n)*bytes) 281474976710656&&Nat.ble n 9223372036854775807
def z1(size:Nat)(id off len:Nat)(cY:List Value)(n:Nat)(H:au):R:=
 match (if Nat.beq len 0 then some []else s0 H id off (len*size))with
 | some old=>mB (iC old cY) (len+n) (2*size) H
 | none=>none
def BW(size:Nat)(id off len:Nat)(cY:List Value)(n:Nat)(H:au):R:=
 match H.get id with
 | some b=>match H.o2 id b&&(Nat.ble (off+len*size) (gi b.cells)&&kh eL cY)with|true=>mB (iC (ry (qB b.cells (off+len*size)) off) cY) (len+n) (2*size) (H.set id none)|false=>none
 | none=>none
def rA(size bytes:Nat)(s:Value)(cY:List Value)(n:Nat)(H:au):R:=
 match s with
 | .slice a len c=>match a with
  | none=>if Nat.beq n 0 then some (.slice none 0 0,H)else if yK n bytes then mB cY n (2*size) H else none
  | some ⟨id,off,cM⟩=>match cM with
   | some _=>none
   | none=>if Nat.beq n 0 then some (s,H)else
    if yK (len+n) bytes then
     if Nat.beq c (2*size+1)then z1 size id off len cY n H
     else if Nat.beq c (2*size)then BW size id off len cY n H else none
    else none
 | _=>none
def gw(size bytes:Nat)(s x:Value)(H:au):R:=
 match nC x with
 | some n=>match tX H size n x with
  | some cY=>rA size bytes s cY n H
  | none=>none
 | none=>none
def VO(size:Nat)(x:Value)(H:au):R:=match x with
 | .slice a n c=>match a with
  | none=>match Nat.beq n 0&&Nat.beq c 0 with
   | true=>some (.int .i64 0,H)
   | false=>none
  | some _=>match Nat.beq c (2*size+1)with
   | true=>some (.int .i64 n,H)
   | false=>none
 | _=>none
def Jp(t:TypeId):BT:=
 match P.underlying t with
 | some (.slice e)=>match hk P e with
  | some size=>⟨VO size⟩
  | none=>⟨fun _ _=>none⟩
 | _=>⟨fun _ _=>none⟩
structure BX where f:List Value->au->R
def ig(g:Value->Value->au->R):List Value->au->R
 | [a,b],H=>g a b H
 | _,_=>none
def fh(g:Value->au->R):List Value->au->R
 | [a],H=>g a H
 | _,_=>none
def BY(t:TypeId):Bool:=match P.underlying t with
 | some (.slice _)=>true
 | some .string=>true
 | _=>false
def Ee(argTypes:List TypeId):BX:=
 match argTypes with
 | [k0,k1]=>match P.underlying k0 with
  | some (.slice e)=>match P.info? e with
   | some i=>match iL P e with
    | some z=>match (Nat.blt 0 i.size&&Nat.beq (gi (dr z)) i.size)&&BY P k1 with
     | true=>⟨ig (gw i.size i.bytes)⟩
     | false=>⟨fun _ _=>none⟩
    | none=>⟨fun _ _=>none⟩
   | none=>⟨fun _ _=>none⟩
  | _=>⟨fun _ _=>none⟩
 | _=>⟨fun _ _=>none⟩
def Jq(size bytes:Nat)(z:List Value)(s x:Value)(H:au):R:=
 match s with
 | .slice a len c=>match a with
  | some _=>none
  | none=>match x with
   | .int k n=>match k with
    | .i64=>match kx 0 n&&(Nat.beq len 0&&Nat.beq c 0)with
     | true=>match Nat.beq n.toNat 0 with
      | true=>some (.slice none 0 0,H)
      | false=>match yK n.toNat bytes with
       | true=>mB (gv n.toNat z) n.toNat (2*size) H
       | false=>none
     | false=>none
    | _=>none
   | _=>none
 | _=>none
def Ef(k0:TypeId):BX:=
 match P.underlying k0 with
 | some (.slice e)=>match P.info? e with
  | some i=>match iL P e with
   | some z=>match Nat.blt 0 i.size&&Nat.beq (gi (dr z)) i.size with
    | true=>⟨ig (Jq i.size i.bytes (dr z))⟩
    | false=>⟨fun _ _=>none⟩
   | none=>⟨fun _ _=>none⟩
  | none=>⟨fun _ _=>none⟩
 | _=>⟨fun _ _=>none⟩
def Eg(t:TypeId):Bool:=match P.underlying t with
 | some (.int _)=>true
 | _=>false
def Jr(argTypes:List TypeId):BX:=
 match argTypes with
 | [k0,k1]=>match Eg P k1 with
  | true=>Ef P k0
  | false=>Ee P argTypes
 | _=>⟨fun _ _=>none⟩
def rB(size:Nat)(d x:Value)(H:au):R:=
 match d with
 | .slice base ajO _=>match nC x with
  | some aC=>
   let n:=Nat.min aC ajO
   if Nat.beq n 0 then some (.int .i64 0,H)else
   match base with
   | some ⟨id,off,cM⟩=>match cM with
    | some _=>none
    | none=>match tX H size n x with
     | some cY=>match wi H id off cY with
      | some H=>some (.int .i64 n,H)
      | none=>none
     | none=>none
   | none=>none
  | none=>none
 | _=>none
def z6(argTypes:List TypeId):BX:=
 match argTypes with
 | s3::_=>match P.underlying s3 with
  | some (.slice e)=>match hk P e with
   | some size=>if Nat.blt 0 size then⟨ig (rB size)⟩else⟨fun _ _=>none⟩
   | none=>⟨fun _ _=>none⟩
  | _=>⟨fun _ _=>none⟩
 | _=>⟨fun _ _=>none⟩
def Js:Int->List Value->IntKind->Option Value
 | v,[],k=>some (.int k v)
 | v,x::r,k=>match x with
  | .int _ y=>Js (cond (kx v y) v y) r k
  | _=>none
def Jt:Int->List Value->IntKind->Option Value
 | v,[],k=>some (.int k v)
 | v,x::r,k=>match x with
  | .int _ y=>Jt (cond (kx y v) v y) r k
  | _=>none
def oF:List Value->Option Value
 | v::r=>match v with|.int k x=>Js x r k|_=>none
 | []=>none
def pF:List Value->Option Value
 | v::r=>match v with|.int k x=>Jt x r k|_=>none
 | []=>none
def GA(t:TypeId):BT:=
 match P.underlying t with
 | some .string=>⟨fun x H=>match x with|.string s=>some (.int .i64 (Int.ofNat (gi s.data.toList)),H)|_=>none⟩
 | some (.array n _)=>⟨fun _ H=>some (.int .i64 n,H)⟩
 | some (.slice _)=>⟨fun x H=>match x with|.slice _ n _=>some (.int .i64 n,H)|_=>none⟩
 | _=>⟨fun _ _=>none⟩
def z7(z:List Value)(x:Value)(H:au):R:=
 match x with
 | .slice a n _=>if Nat.beq n 0 then some (.tuple #[],H)else match a with
  | none=>some (.tuple #[],H)
  | some ⟨id,off,cM⟩=>match cM with
   | some _=>none
   | none=>match wi H id off (gv n z)with
    | some H=>some (.tuple #[],H)
    | none=>none
 | _=>none
def GB(t:TypeId):BT:=
 match P.underlying t with
 | some (.slice e)=>match iL P e with
  | some z=>⟨z7 (dr z)⟩
  | none=>⟨fun _ _=>none⟩
 | _=>⟨fun _ _=>none⟩
def u5(b:Builtin)(argTypes:List TypeId):BX:=
 match b with
 | .append=>Jr P argTypes
 | .copy=>z6 P argTypes
 | .len=>match argTypes with|t::_=>⟨fh (GA P t).f⟩|_=>⟨fun _ _=>none⟩
 | .cap=>match argTypes with|t::_=>⟨fh (Jp P t).f⟩|_=>⟨fun _ _=>none⟩
 | .min=>⟨fun l H=>fZ H (oF l)⟩
 | .max=>⟨fun l H=>fZ H (pF l)⟩
 | .clear=>match argTypes with|t::_=>⟨fh (GB P t).f⟩|_=>⟨fun _ _=>none⟩
 | _=>⟨fun _ _=>none⟩
def oG(len:Nat):Option Value->Option Nat
 | none=>some len
 | some v=>match v with
  | .int _ n=>match kx 0 n with|true=>(match Nat.ble n.toNat len with|true=>some n.toNat|false=>none)|false=>none
  | _=>none
def qD(h:Nat):Option Value->Option Nat
 | none=>some 0
 | some v=>match v with
  | .int _ n=>match kx 0 n with|true=>(match Nat.ble n.toNat h with|true=>some n.toNat|false=>none)|false=>none
  | _=>none
structure ajP where f:Value->Option Value->Option Value->Option Value->au->Option Value
def z8(x:Value)(fm an hy:Option Value):Option Value:=match x with
 | .string s=>match hy with
  | some _=>none
  | none=>match oG (gi s.data.toList) an with
   | some h=>match qD h fm with
    | some l=>some (.string ⟨(qB (ry s.data.toList l) (h-l)).toArray⟩)
    | none=>none
   | none=>none
 | _=>none
def sl(h:Nat)(an hy:Option Value):Option Bool:=match hy with
 | none=>some false
 | some v=>match v with
  | .int _ m=>match an with
   | some _=>match kx 0 m with
    | true=>(match Nat.beq m.toNat h with|true=>some true|false=>none)
    | false=>none
   | none=>none
  | _=>none
def rC(size:Nat)(a:Option Addr)(l h:Nat)(oH:Bool):Option Value:=match a with
 | none=>some (.slice none 0 0)
 | some ⟨id,off,cM⟩=>match cM with
  | some _=>none
  | none=>some (.slice (some ⟨id,off+l*size,none⟩) (h-l) (cond oH (2*size+1) (2*size)))
def hI(size:Nat)(x:Value)(fm an hy:Option Value):Option Value:=match x with
 | .slice a len c=>match oG len an with
  | some h=>match qD h fm with
   | some l=>match sl h an hy with
    | some oH=>match Nat.beq c (2*size+1)with
     | true=>rC size a l h (oH||Nat.beq h len)
     | false=>match Nat.beq c (2*size)||Nat.beq c 0 with
      | true=>rC size a l h oH
      | false=>none
    | none=>none
   | none=>none
  | none=>none
 | _=>none
def mK(n size:Nat)(x:Value)(fm an hy:Option Value)(H:au):Option Value:=match x with
 | .pointer a=>match a with
  | none=>none
  | some ⟨id,off,cM⟩=>match H.get id with
   | none=>none
   | some b=>match Nat.ble (off+n*size) (gi b.cells)with
    | false=>none
    | true=>match oG n an with
     | some h=>match qD h fm with
      | some l=>match sl h an hy with
       | some oH=>rC size (some ⟨id,off,cM⟩) l h (oH||Nat.beq h n)
       | none=>none
      | none=>none
     | none=>none
 | _=>none
def Ju(t:TypeId):ajP:=
 match P.underlying t with
 | some .string=>⟨fun x fm an hy _=>z8 x fm an hy⟩
 | some (.slice e)=>match hk P e with
  | some size=>match Nat.blt 0 size with
   | true=>⟨fun x fm an hy _=>hI size x fm an hy⟩
   | false=>⟨fun _ _ _ _ _=>none⟩
  | none=>⟨fun _ _ _ _ _=>none⟩
 | some (.array n e)=>match hk P e with
  | some size=>match Nat.blt 0 size with
   | true=>⟨mK n size⟩
   | false=>⟨fun _ _ _ _ _=>none⟩
  | none=>⟨fun _ _ _ _ _=>none⟩
 | _=>⟨fun _ _ _ _ _=>none⟩
def u6(size bytes:Nat)(z:List Value)(l c:Value)(H:au):R:=match l with
 | .int _ l=>match c with
  | .int _ c=>
   if 0<=l then(if l<=c then(if Nat.ble (c.toNat*bytes) 281474976710656&&Nat.ble c.toNat 9223372036854775807 then
    mB (gv l.toNat z) l.toNat (cond (pD l c) (2*size+1) (2*size)) H else none)else none)else none
  | _=>none
 | _=>none
structure Ot where f:Value->Value->au->R
def rD(t:TypeId):Ot:=
 match P.underlying t with
 | some (.slice e)=>match hk P e,iL P e,(P.info? e).map (·.bytes)with
  | some size,some z,some bytes=>if Nat.blt 0 size&&Nat.beq (gi (dr z)) size then⟨u6 size bytes (dr z)⟩else⟨fun _ _ _=>none⟩
  | _,_,_=>⟨fun _ _ _=>none⟩
 | _=>⟨fun _ _ _=>none⟩
def bG(o:Nat)(x:Value):Option Value:=match x with
 | .pointer a=>match a with
  | some ⟨id,off,cM⟩=>match cM with
   | none=>some (.pointer (some ⟨id,off+o,none⟩))
   | some _=>none
  | none=>none
 | _=>none
structure Jv where f:Value->Option Value
def Aa(s:TypeId)(f:Nat):Jv:=
 match P.underlying s with
 | some (.struct nB)=>match nB.toList[f]? with
  | some dc=>match hk P dc.type with
   | some 0=>⟨fun _=>none⟩
   | some _=>⟨bG dc.offset⟩
   | none=>⟨fun _=>none⟩
  | none=>⟨fun _=>none⟩
 | _=>⟨fun _=>none⟩
def fa(n size:Nat)(x i:Value):Option Value:=match i with
 | .int _ i=>match kx 0 i with|true=>(match Nat.blt i.toNat n with|true=>bG (i.toNat*size) x|false=>none)|false=>none
 | _=>none
def hz(size:Nat)(x i:Value):Option Value:=match x with
 | .slice a n _=>fa n size (.pointer a) i
 | _=>none
def Jw(t:TypeId):Gz:=
 match P.underlying t with
 | some (.array n e)=>match hk P e with
  | some size=>⟨fa n size⟩
  | none=>⟨fun _ _=>none⟩
 | some (.slice e)=>match hk P e with
  | some size=>⟨hz size⟩
  | none=>⟨fun _ _=>none⟩
 | _=>⟨fun _ _=>none⟩
structure wq where f:List Value->Nat->Option Value
def Eh(t:TypeId):wq:=
 match qC P t,hk P t with
 | some true,some n=>⟨fun aq off=>some (.agg (qB (ry aq off) n).toArray)⟩
 | some false,some _=>⟨fun aq off=>o1 aq off⟩
 | _,_=>⟨fun _ _=>none⟩
def Jx(n size:Nat)(p:List Value->Nat->Option Value)(x i:Value):Option Value:=match x with
 | .agg aq=>match i with
  | .int _ i=>match kx 0 i with|true=>(match Nat.blt i.toNat n with|true=>p aq.toList (i.toNat*size)|false=>none)|false=>none
  | _=>none
 | _=>none
def GC(x i:Value):Option Value:=match x with
 | .string s=>match i with
  | .int _ i=>match kx 0 i with|true=>(o1 s.data.toList i.toNat).map xD|false=>none
  | _=>none
 | _=>none
def Jy(t:TypeId):Gz:=
 match P.underlying t with
 | some (.array n e)=>match hk P e with
  | some size=>⟨Jx n size (Eh P e).f⟩
  | none=>⟨fun _ _=>none⟩
 | some .string=>⟨GC⟩
 | _=>⟨fun _ _=>none⟩
def Jz(t:TypeId)(f:Nat):Jv:=
 match P.underlying t with
 | some (.struct nB)=>match nB.toList[f]? with
  | some dc=>⟨fun x=>match x with|.agg aq=>(Eh P dc.type).f aq.toList dc.offset|_=>none⟩
  | none=>⟨fun _=>none⟩
 | _=>⟨fun _=>none⟩
def ng(Ac:TypeId)(z:Option Value)(x:Value):Option Value:=
 match x with
 | .iface t v=>if Nat.beq t Ac then some (.tuple #[v,.bool true])else z.map fun z=>.tuple #[z,.bool false]
 | .nilIface=>z.map fun z=>.tuple #[z,.bool false]
 | _=>none
def Ad(Ac:TypeId)(x:Value):Option Value:=
 match x with
 | .iface t v=>if Nat.beq t Ac then some v else none
 | _=>none
def BZ(Ac:TypeId)(ok:Bool):Jv:=
 match P.underlying Ac with
 | some (.interface _)=>⟨fun _=>none⟩
 | some _=>if ok then⟨ng Ac (iL P Ac)⟩else⟨Ad Ac⟩
 | none=>⟨fun _=>none⟩
structure VP where g:List Value->Value
def ek:Operand->VP
 | .tmp t=>⟨fun T=>cf T t⟩
 | .const v=>⟨fun _=>v⟩
 | .global g=>⟨fun _=>.pointer (some ⟨g,0,none⟩)⟩
 | .func f=>⟨fun _=>.func (.func f) #[] #[]⟩
def Ei:Operand->VP
 | .tmp t=>⟨fun T=>cf T t⟩
 | _=>⟨fun _=>undef⟩
def kO(l:List Operand)(T:List Value):List Value:=match l with
 | []=>[]
 | o::r=>(ek o).g T::kO r T
def u7(l:List (Nat×Operand))(T:List Value):List (Nat×Value):=match l with
 | []=>[]
 |(i,o)::r=>(i,(ek o).g T)::u7 r T
def B0(o:Option Operand)(T:List Value):Option Value:=match o with
 | none=>none
 | some o=>some ((ek o).g T)
def bZ(n:Nat)(a:Value)(H:au):R:=match a with
 | .pointer a=>match a with
  | some ⟨id,off,cM⟩=>match cM with
   | none=>match s0 H id off n with
    | some l=>some (.agg l.toArray,H)
    | none=>none
   | some _=>none
  | none=>none
 | _=>none
def B1(H:au)(id off:Nat):Option Value:=match H.get id with
 | some b=>o1 b.cells off
 | none=>none
def aw(a:Value)(H:au):R:=match a with
 | .pointer a=>match a with
  | some ⟨id,off,cM⟩=>match cM with
   | none=>fZ H (B1 H id off)
   | some _=>none
  | none=>none
 | _=>none
def oI(t:TypeId):BT:=match qC P t,hk P t with
 | some true,some n=>⟨bZ n⟩
 | some false,some _=>⟨aw⟩
 | _,_=>⟨fun _ _=>none⟩
def bx(n:Nat)(a v:Value)(H:au):R:=match a with
 | .pointer a=>match a with
  | some ⟨id,off,cM⟩=>match cM with
   | none=>if Nat.beq (gi (dr v)) n then(match wi H id off (dr v)with
    | some H=>some (undef,H)
    | none=>none)else none
   | some _=>none
  | none=>none
 | _=>none
def pG(x:Value):Option Value:=match x with
 | .pointer a=>match a with|some _=>some x|none=>none
 | .iface _ _=>some x
 | .func fn _ _=>match fn with|.func _=>some x|_=>none
 | _=>none
structure VQ where f:List Value->au->R
def kP(op:Op):VQ:=
 match op with
 | .move x=>⟨fun T H=>some ((ek x).g T,H)⟩
 | .assign x=>⟨fun T H=>some ((ek x).g T,H)⟩
 | .pick c a b=>⟨fun T H=>match (ek c).g T with|.bool t=>(match t with|true=>some ((ek a).g T,H)|false=>some ((ek b).g T,H))|_=>none⟩
 | .alloc t=>match iL P t with
  | some z=>⟨fun _ H=>yJ (dr z) H⟩
  | none=>⟨fun _ _=>none⟩
 | .box _ x=>⟨fun T H=>yJ (dr ((ek x).g T)) H⟩
 | .build t ie=>⟨fun T H=>fZ H ((dq P t).f (u7 ie.toList T))⟩
 | .buildSlice t len ie=>⟨fun T H=>(eV P t len).f (u7 ie.toList T) H⟩
 | .load t a=>⟨fun T H=>(oI P t).f ((ek a).g T) H⟩
 | .store t a x=>match hk P t with
  | some n=>⟨fun T H=>bx n ((ek a).g T) ((ek x).g T) H⟩
  | none=>⟨fun _ _=>none⟩
 | .nilCheck x=>⟨fun T H=>fZ H (pG ((ek x).g T))⟩
 | .binOp op t x y _=>⟨fun T H=>fZ H ((ar P op t (wk x||wk y)).f ((ek x).g T) ((ek y).g T))⟩
 | .unOp op _ x=>⟨fun T H=>fZ H (hx op ((ek x).g T))⟩
 | .convert s d x=>⟨fun T H=>(BV P s d).f ((ek x).g T) H⟩
 | .makeInterface t x=>match P.underlying t with
  | some (.interface _)=>⟨fun _ _=>none⟩
  | some _=>⟨fun T H=>some (.iface t ((ek x).g T),H)⟩
  | none=>⟨fun _ _=>none⟩
 | .makeFunc fn first cap=>match fn with
  | .func f=>⟨fun T H=>some (.func (.func f) (kO first.toList T).toArray (kO cap.toList T).toArray,H)⟩
  | _=>⟨fun _ _=>none⟩
 | .makeSlice t l c=>⟨fun T H=>(rD P t).f ((ek l).g T) ((ek c).g T) H⟩
 | .slice t x fm an hy=>⟨fun T H=>fZ H ((Ju P t).f ((ek x).g T) (B0 fm T) (B0 an T) (B0 hy T) H)⟩
 | .fieldAddr s x f=>⟨fun T H=>fZ H ((Aa P s f).f ((ek x).g T))⟩
 | .field t x f=>⟨fun T H=>fZ H ((Jz P t f).f ((ek x).g T))⟩
 | .indexAddr t x i=>⟨fun T H=>fZ H ((Jw P t).f ((ek x).g T) ((ek i).g T))⟩
 | .index t x i=>⟨fun T H=>fZ H ((Jy P t).f ((ek x).g T) ((ek i).g T))⟩
 | .typeAssert x _ a ok=>⟨fun T H=>fZ H ((BZ P a ok).f ((ek x).g T))⟩
 | .extract x i=>⟨fun T H=>match (ek x).g T with|.tuple vs=>fZ H (o1 vs.toList i)|_=>none⟩
 | .call c=>match c.callee with
  | .builtin b=>⟨fun T H=>(u5 P b c.argTypes.toList).f (kO c.args.toList T) H⟩
  | _=>⟨fun _ _=>none⟩
 | _=>⟨fun _ _=>none⟩
def s4(H:au):au:=⟨H.t.set H.next none,Nat.succ H.next,H.dS,(H.next,ki [])::H.ed⟩
def B2(t:TypeId):Option (Bool×TypeId):=match P.underlying t with
 | some (.map k e)=>match P.underlying k with
  | some .string=>some (true,e)
  | some (.int _)=>some (false,e)
  | _=>none
 | _=>none
def Ej(bS:Bool)(a b:Value):Option Bool:=match bS with
 | true=>match a with
  | .string s=>match b with|.string t=>some (s==t)|_=>none
  | _=>none
 | false=>match a with
  | .int k m=>match b with|.int e6 n=>(match u1 k e6 with|true=>some (pD m n)|false=>none)|_=>none
  | _=>none
def xE(bS:Bool)(key:Value):List Value->Option (Option Value)
 | []=>some none
 | [_]=>none
 | k::v::r=>match Ej bS key k with
  | some true=>some (some v)
  | some false=>xE bS key r
  | none=>none
def Ek(m:Value)(H:au):Option (List Value):=match m with
 | .map r=>match r with
  | none=>some []
  | some id=>match eZ H.ed id with
   | some r=>match nA r with|true=>some r.T|false=>none
   | none=>none
 | _=>none
def El(ok:Bool)(v:Value)(b:Bool):Value:=match ok with
 | true=>.tuple #[v,.bool b]
 | false=>v
def xF(t:TypeId)(ok:Bool)(m key:Value)(H:au):R:=match B2 P t with
 | some (bS,e)=>match iL P e with
  | some z=>match Ek m H with
   | some T=>match xE bS key T with
    | some (some v)=>some (El ok v true,H)
    | some none=>some (El ok z false,H)
    | none=>none
   | none=>none
  | none=>none
 | none=>none
def u9(t:TypeId)(m key v:Value)(H:au):R:=match B2 P t with
 | some (bS,_)=>match m with
  | .map r=>match r with
   | some id=>match Nat.ble H.dS id with
    | true=>match Ek m H with
     | some T=>match xE bS key T with
      | some none=>some (undef,⟨H.t,H.next,H.dS,l7 H.ed id (ki (iC T [key,v]))⟩)
      | _=>none
     | none=>none
    | false=>none
   | none=>none
  | _=>none
 | none=>none
inductive B3 where
 | loop (dv:Bool) (c:Code) (T:List Value) (H:au)
 | call (f:FuncId) (args:List Value) (H:au)
 | round (l:Nat) (args:List Value) (H:au)
structure el where
 c6:nz
 T:List Value
 H:au
abbrev hQ:=B3->Option el
inductive xG where
 | fn (f:FuncId) (args:List Value)
 | sm (l:Nat) (args:List Value)
def vb(f:Value)(args:List Value):Option xG:=match f with
 | .func fn first cap=>match fn with
  | .func g=>some (.fn g (iC first.toList (iC args cap.toList)))
  | .yield l=>match Nat.beq (gi first.toList) 0&&Nat.beq (gi cap.toList) 0 with
   | true=>some (.sm l args)
   | false=>none
  | _=>none
 | _=>none
def Ou(t:TypeId)(name:String):Option (FuncId×Bool):=
 match P.info? t with
 | some i=>match i.methods.toList.find? (fun m=>m.name==name)with
  | some m=>match m.path.toList with
   | []=>m.func
   | _=>none
  | none=>none
 | none=>none
def Ov(t:TypeId):Option Bool:=match P.underlying t with
 | some (.pointer _)=>some true
 | some _=>some false
 | none=>none
def Ow(name:String)(r:Value)(args:List Value):Option xG:=match r with
 | .iface t v=>match Ou P t name with
  | some (f,ai)=>match Ov P t with
   | some b=>if b==ai then some (.fn f (v::args))else none
   | none=>none
  | none=>none
 | _=>none
def JA(H:au):xG->B3
 | .fn f args=>.call f args H
 | .sm l args=>.round l args H
def vc(self:hQ)(x:Option xG)(H:au):R:=
 match x with
 | some t=>match self (JA H t)with
  | some ⟨_,T,H⟩=>match T with
   | [v]=>some (v,H)
   | _=>none
  | none=>none
 | none=>none
structure VR where f:hQ->List Value->au->R
def wt:Operand->Bool
 | .tmp _=>true
 | .const v=>Ea v
 | .global g=>Nat.blt g P.globals.size
 | .func _=>true
def yL(op:Op):VR:=
 match op with
 | .call c=>match c.callee with
  | .builtin _=>⟨fun _ T H=>(kP P op).f T H⟩
  | .value f=>⟨fun self T H=>vc self (vb ((ek f).g T) (kO c.args.toList T)) H⟩
  | .invoke r name=>⟨fun self T H=>vc self (Ow P name ((ek r).g T) (kO c.args.toList T)) H⟩
 | .makeMap _ r=>match r with
  | none=>⟨fun _ _ H=>some (.map (some H.next),s4 H)⟩
  | some _=>⟨fun _ _ _=>none⟩
 | .lookup t x i ok=>⟨fun _ T H=>xF P t ok ((ek x).g T) ((ek i).g T) H⟩
 | .mapUpdate t m k x=>⟨fun _ T H=>u9 P t ((ek m).g T) ((ek k).g T) ((ek x).g T) H⟩
 | .insert t m k x=>⟨fun _ T H=>u9 P t ((ek m).g T) ((ek k).g T) ((ek x).g T) H⟩
 | op=>⟨fun _ T H=>(kP P op).f T H⟩
def iu(op:Op):VR:=match kh (wt P) op.operands.toList with
 | true=>yL P op
 | false=>⟨fun _ _ _=>none⟩
def iO(T:List Value)(d:Option Tmp)(v:Value):List Value:=match d with
 | some d=>hs T d v
 | none=>T
structure ajQ where f:List Value->Bool
def iT(all:List Oper)(g:Option (Nat×Bool)):ajQ:=
 match g with
 | none=>⟨fun _=>true⟩
 | some (j,c7)=>match (all[j]?).bind (·.dst)with
  | some d=>⟨fun T=>match cf T d with|.bool b=>b==c7|_=>false⟩
  | none=>⟨fun _=>false⟩
def ja(op:Op):Nat:=
 match op with
 | .load _ _=>1
 | .slice t _ _ _ _=>match P.underlying t with|some (.array _ _)=>1|_=>0
 | .convert s d _=>match P.underlying d with
  | some (.slice _)=>match P.underlying s with|some (.slice _)=>1|_=>2
  | some .string=>match P.underlying s with|some (.slice _)=>1|_=>0
  | _=>0
 | .alloc _=>2
 | .box _ _=>2
 | .buildSlice _ _ _=>2
 | .makeSlice _ _ _=>2
 | .store _ _ _=>4
 | .makeMap _ _=>3
 | .lookup _ _ _ _=>3
 | .mapUpdate _ _ _ _=>3
 | .insert _ _ _ _=>3
 | .call c=>match c.callee with
  | .builtin b=>match b with
   | .append=>4
   | .copy=>4
   | .clear=>4
   | _=>0
  | _=>3
 | _=>0
def JB(ms:List Nat)(o:Oper):Nat:=
 o.after.toList.foldl (fun s e=>match Region.binds .any e with
  | true=>Nat.lor s (Nat.lor (Nat.shiftLeft 1 e.on) (match o1 ms e.on with|some m=>m|none=>0))
  | false=>s) 0
def GD(ms:List Nat):List Oper->List Nat
 | []=>ms
 | o::r=>GD (iC ms [JB ms o]) r
def VS(l:List Oper):List Nat:=GD [] l
def iD(m i:Nat):Bool:=Nat.beq (Nat.land (Nat.shiftRight m i) 1) 1
def looks(all:List Oper)(o:Oper):List Nat:=
 iC (o.op.operands.toList.filterMap fun x=>match x with|.tmp t=>some t|_=>none)
  (match o.guard with
   | some (g,_)=>match (o1 all g).bind (·.dst)with|some d=>[d]|none=>[]
   | none=>[])
def s5(i:Nat)(l:List Nat):Bool:=not (kh (fun j=>not (Nat.beq i j)) l)
def JC(o:Oper)(l:List Nat):Bool:=match o.dst with
 | some d=>s5 d l
 | none=>false
def Ox(x y:Oper):Bool:=match x.dst with
 | some d=>match y.dst with|some e=>Nat.beq d e|none=>false
 | none=>false
def B4(all:List Oper)(x y:Oper):Bool:=not (JC x (looks all y))&&(not (JC y (looks all x))&&not (Ox x y))
structure nD where
 cZ:Nat
 lS:Nat
 e0:Nat
 /-- a call of a function VT touches ld memory, where others would stand in its way: B5 is run on sn empty heap -/
 l8:Bool
def xH(i:Nat):List Oper->List Nat->List (Oper×Nat×Nat)
 | o::r,m::ms=>(o,i,m)::xH (Nat.succ i) r ms
 | _,_=>[]
def B6(l:List Oper):List (Oper×Nat×Nat):=xH 0 l (VS l)
def GF(o:Oper)(i:Nat):Bool:=kh (fun(e:Edge)=>match Region.binds .any e with
 | true=>Nat.blt e.on i
 | false=>true) o.after.toList
def Oy(all:List Oper):Bool:=
 kh (fun(y:Oper×Nat×Nat)=>GF y.1 y.2.1) (B6 all)&&kh (fun(y:Oper×Nat×Nat)=>kh (fun(x:Oper×Nat×Nat)=>match Nat.blt x.2.1 y.2.1 with
  | true=>iD y.2.2 x.2.1||B4 all x.1 y.1
  | false=>true) (B6 all)) (B6 all)
def VU(bg:FuncId->Bool)(op:Op):Bool:=match ja P op with
 | 0=>true
 | 3=>match op with
  | .call c=>match c.callee with
   | .value g=>match g with
    | .func f=>bg f
    | _=>false
   | _=>false
  | _=>false
 | _=>false
def ajR(bg:FuncId->Bool)(c:Code):Bool:=
 Code.rec (motive:=fun _=>Bool) true (fun _ bD _=>kh (fun(o:Oper)=>VU P bg o.op) bD.toList) (fun _ _ a b=>a&&b) (fun _ _ _ a b=>a&&b) (fun _ _ a=>a) (fun _ _=>false) (fun _ _ _ _ _ _=>false) (fun _=>true) (fun _ _=>false) (fun _=>true) (fun _=>false) true (fun _=>false) c
def ajS(n:Nat):FuncId->Bool:=
 Nat.rec (motive:=fun _=>FuncId->Bool) (fun _=>false) (fun _ bg f=>match o1 P.funcs.toList f with
  | some fn=>match fn.body with
   | some c=>ajR P bg c
   | none=>false
  | none=>false) n
def ajT(l:List (Oper×Nat×Nat))(i m:Nat):Bool:=not (kh (fun(x:Oper×Nat×Nat)=>match x.1.guard with
 | some _=>true
 | none=>match Nat.blt x.2.1 i with
  | true=>iD m x.2.1||not (Nat.ble 2 (ja P x.1.op))
  | false=>match Nat.blt i x.2.1 with
   | true=>iD x.2.2 i||not (Nat.ble 3 (ja P x.1.op))
   | false=>true) l)
def VV(l:List (Oper×Nat×Nat))(x:Oper×Nat×Nat):Bool:=match x.1.guard with
 | some _=>false
 | none=>match ja P x.1.op with
  | 3=>VU P (ajS P 3) x.1.op&&ajT P l x.2.1 x.2.2
  | _=>false
def B7(l:List (Oper×Nat×Nat))(x:Oper×Nat×Nat):nD:=match VV P l x with
 | true=>⟨x.2.1,x.2.2,0,true⟩
 | false=>⟨x.2.1,x.2.2,ja P x.1.op,false⟩
def JD(l:List (Oper×Nat×Nat)):List (Oper×nD):=
 l.map fun x=>(x.1,B7 P l x)
def s6(l:List Oper):List (Oper×nD):=JD P (B6 l)
def Em(a b:Option Addr):Bool:=match a with
 | none=>match b with|none=>true|some _=>false
 | some ⟨i,o,s⟩=>match b with
  | none=>false
  | some ⟨vd,dK,cl⟩=>match s with
   | some _=>false
   | none=>match cl with
    | some _=>false
    | none=>Nat.beq i vd&&Nat.beq o dK
def VW(a b:Fn):Bool:=match a with
 | .func f=>match b with|.func g=>Nat.beq f g|_=>false
 | _=>false
def Oz(a b:Bool):Bool:=match a with|true=>b|false=>not b
def OA(a b:UInt8):Bool:=Nat.beq a.toNat b.toNat
def B8(sub:Value->Value->Bool)(x y:Value):Bool:=match x with
 | .bool a=>match y with|.bool b=>Oz a b|_=>false
 | .int k a=>match y with|.int e6 b=>u1 k e6&&pD a b|_=>false
 | .string a=>match y with|.string b=>u0 OA a.data.toList b.data.toList|_=>false
 | .pointer a=>match y with|.pointer b=>Em a b|_=>false
 | .slice a n c=>match y with|.slice cH mC bV=>Em a cH&&(Nat.beq n mC&&Nat.beq c bV)|_=>false
 | .map a=>match y with|.map b=>(match a with|none=>(match b with|none=>true|some _=>false)|some i=>(match b with|none=>false|some j=>Nat.beq i j))|_=>false
 | .nilFunc=>match y with|.nilFunc=>true|_=>false
 | .nilIface=>match y with|.nilIface=>true|_=>false
 | .iface t v=>match y with|.iface nh aQ=>Nat.beq t nh&&sub v aQ|_=>false
 | .func f a b=>match y with|.func yM cH di=>VW f yM&&(u0 sub a.toList cH.toList&&u0 sub b.toList di.toList)|_=>false
 | .agg a=>match y with|.agg b=>u0 sub a.toList b.toList|_=>false
 | _=>false
def OB:Value->Value->Bool:=B8 (B8 (B8 fun _ _=>false))
def en(H ab:au)(id:Nat):Bool:=match H.get id with
 | some b=>match ab.get id with
  | some di=>Oz b.wr di.wr&&u0 OB b.cells di.cells
  | none=>false
 | none=>false
structure mD where
 cZ:Nat
 e0:Nat
 lT:List Nat
 fm:Nat
 an:Nat
 oJ:Nat->Bool
def En:Value->Option Nat
 | .pointer a=>match a with|some a=>some a.block|none=>none
 | .slice a _ _=>match a with|some a=>some a.block|none=>none
 | _=>none
def cm(l:List Value):List Nat:=l.filterMap En
def tY(o:Oper)(p:nD)(T:List Value)(H ab:au):mD:=⟨p.cZ,p.e0,match p.e0 with|1=>cm (kO o.op.operands.toList T)|4=>cm (kO o.op.operands.toList T)|_=>[],H.next,ab.next,match p.e0 with|3=>en H ab|_=>fun _=>false⟩
def Ae(l:List Nat)(fm an:Nat):Bool:=kh (fun i=>Nat.blt i fm||Nat.ble an i) l
def oK(l m:List Nat):Bool:=kh (fun i=>not (s5 i m)) l
def tZ(k j:mD):Bool:=
 match k.e0 with
 | 0=>true
 | 1=>match j.e0 with
  | 3=>kh j.oJ k.lT
  | 4=>oK k.lT j.lT
  | _=>true
 | 2=>match j.e0 with
  | 0=>true
  | 1=>Ae j.lT k.fm k.an
  | 2=>true
  | 4=>Ae j.lT k.fm k.an
  | _=>false
 | 3=>match j.e0 with
  | 0=>true
  | 1=>kh k.oJ j.lT
  | 2=>true
  | _=>false
 | 4=>match j.e0 with
  | 0=>true
  | 1=>oK k.lT j.lT&&Ae j.lT k.fm k.an
  | 2=>true
  | _=>false
 | _=>false
def GG(p:nD)(j:mD)(dI:List mD):Bool:=match j.e0 with
 | 0=>true
 | _=>kh (fun k=>iD p.lS k.cZ||tZ k j) dI
def l8(H:au):au:=⟨.nil,H.next,H.dS,[]⟩
def GH(H:au)(r:R):R:=match r with
 | some (v,bB)=>match Nat.beq bB.next H.next with
  | true=>some (v,H)
  | false=>none
 | none=>none
def ua(self:hQ)(o:Oper)(p:nD)(T:List Value)(H:au):R:=match p.l8 with
 | true=>GH H ((iu P o.op).f self T (l8 H))
 | false=>(iu P o.op).f self T H
def gW(self:hQ)(o:Oper)(w:Bool)(T:List Value)(H:au)(k:List Value->au->Option el):Option el:=
 match w with
 | true=>match (iu P o.op).f self T H with
  | some (v,H)=>k (iO T o.dst v) H
  | none=>none
 | false=>k (iO T o.dst undef) H
def jQ(self:hQ)(all l:List Oper):List Value->au->Option el:=
 List.rec (motive:=fun _=>List Value->au->Option el) (fun T H=>some ⟨.normal,T,H⟩)
  (fun o _ bg T H=>gW P self o ((iT all o.guard).f T) T H bg) l
def so(self:hQ)(o:Oper)(p:nD)(w:Bool)(T:List Value)(H:au)(dI:List mD)(k:List Value->au->List mD->Option el):Option el:=
 match w with
 | true=>match ua P self o p T H with
  | some (v,ab)=>match GG p (tY o p T H ab) dI with
   | true=>k (iO T o.dst v) ab (tY o p T H ab::dI)
   | false=>none
  | none=>none
 | false=>k (iO T o.dst undef) H dI
def qE(self:hQ)(all:List Oper)(l:List (Oper×nD)):List Value->au->List mD->Option el:=
 List.rec (motive:=fun _=>List Value->au->List mD->Option el) (fun T H _=>some ⟨.normal,T,H⟩)
  (fun o _ bg T H dI=>so P self o.1 o.2 ((iT all o.1.guard).f T) T H dI bg) l
def o4(self:hQ)(all:List Oper)(T:List Value)(H:au):Option el:=
 match Oy all with
 | true=>qE P self all (s6 P all) T H []
 | false=>none
def Eo(T:List Value)(H:au):ResultVar->Option Value
 | .tmp t=>some (cf T t)
 | .cell a t=>match (oI P t).f (cf T a) H with
  | some (v,_)=>some v
  | none=>none
def Af(T:List Value)(H:au):List ResultVar->Option (List Value)
 | []=>some []
 | r::dI=>match Eo P T H r with
  | some v=>match Af T H dI with
   | some vs=>some (v::vs)
   | none=>none
  | none=>none
def Ag(dI:List ResultVar)(T:List Value)(H:au):Option Value:=
 match dI with
 | [r]=>Eo P T H r
 | dI=>match Af P T H dI with
  | some vs=>some (.tuple vs.toArray)
  | none=>none
structure JE where f:hQ->List Value->au->Option el
def pH(self:hQ)(v:Value)(a b:JE)(T:List Value)(H:au):Option el:=match v with
 | .bool t=>match t with
  | true=>a.f self T H
  | false=>b.f self T H
 | _=>none
def B9(id:Nat)(o:Option el):Option el:=match o with
 | some ⟨e,T,H⟩=>match e with
  | .exit ve=>if Nat.beq ve id then some ⟨.normal,T,H⟩else some ⟨.exit ve,T,H⟩
  | e=>some ⟨e,T,H⟩
 | none=>none
def nE(o:Option el)(k:List Value->au->Option el):Option el:=match o with
 | some ⟨e,T,H⟩=>match e with
  | .normal=>k T H
  | e=>some ⟨e,T,H⟩
 | none=>none
def GI(o:Option el)(k:List Value->au->Option el):Option el:=match o with
 | some ⟨e,T,H⟩=>match e with
  | .normal=>k T H
  | _=>none
 | none=>none
def wu(T:List Value)(bw:List Tmp)(args:List Value):List Value:=match bw,args with
 | [],_=>T
 | _,[]=>T
 | p::bw,v::vs=>wu (hs T p v) bw vs
def OC(T:List Value)(l:Nat)(H:au):Option el:=match H.ed with
 | []=>none
 | x::ef=>match Nat.beq x.1 l&&Nat.ble H.dS l with
  | true=>match eZ ef l with
   | some _=>none
   | none=>match nA x.2 with
   | true=>none
   | false=>match x.2.st with
    | .busy=>none
    | .ready=>some ⟨.normal,T,⟨H.t,H.next,H.dS,ef⟩⟩
    | .over e=>some ⟨e,T,⟨H.t,H.next,H.dS,ef⟩⟩
  | false=>none
def laid(T:List Value)(bw:List Tmp)(c9 body:Code)(H:au):au:=
 ⟨(H.t.set H.next none).set (Nat.succ H.next) none,Nat.succ (Nat.succ H.next),H.dS,(Nat.succ H.next,⟨T,bw,c9,body,.ready⟩)::H.ed⟩
def wx(l:Nat):Value:=.func (.yield l) #[] #[]
def wy(self:hQ)(g:Value)(bw:List Tmp)(c9 body:Code)(T:List Value)(H:au):Option el:=
 match vb g [wx (Nat.succ H.next)]with
 | some t=>match t with
  | .fn f args=>match self (.call f args (laid T bw c9 body H))with
   | some ⟨_,ft,bB⟩=>match ft with
    | [_]=>OC T (Nat.succ H.next) bB
    | _=>none
   | none=>none
  | .sm _ _=>none
 | none=>none
def wz(l:Nat)(st:wh)(H:au):Option au:=match Nat.ble H.dS l with
 | true=>match eZ H.ed l with
  | some r=>match nA r||nA ⟨r.T,r.bw,r.c9,r.body,st⟩with
   | true=>none
   | false=>some ⟨H.t,H.next,H.dS,l7 H.ed l ⟨r.T,r.bw,r.c9,r.body,st⟩⟩
  | none=>none
 | false=>none
def ajU:wh->Bool
 | .ready=>true
 | _=>false
def Ca(l:Nat)(H:au):Option au:=match eZ H.ed l with
 | some r=>match ajU r.st with
  | true=>wz l .busy H
  | false=>none
 | none=>none
def Ep:nz->wh
 | .normal=>.ready
 | e=>.over e
def Ah:nz->Bool
 | .normal=>true
 | _=>false
def GJ(l:Nat)(o:Option el):Option el:=match o with
 | some ⟨e,_,H⟩=>match wz l (Ep e) H with
  | some bB=>some ⟨.ret,[.bool (Ah e)],bB⟩
  | none=>none
 | none=>none
def dN(dv:Bool)(c:Code):JE:=
 Code.rec (motive:=fun _=>JE)
  ⟨fun _ T H=>some ⟨.normal,T,H⟩⟩
  (fun _ bD d=>match d with
   | true=>⟨fun self T H=>o4 P self bD.toList T H⟩
   | false=>⟨fun self T H=>jQ P self bD.toList bD.toList T H⟩)
  (fun _ _ x y=>⟨fun self T H=>nE (x.f self T H) fun T H=>y.f self T H⟩)
  (fun c _ _ x y=>⟨fun self T H=>pH self ((ek c).g T) x y T H⟩)
  (fun id _ x=>⟨fun self T H=>B9 id (x.f self T H)⟩)
  (fun b _=>⟨fun self T H=>self (.loop dv b T H)⟩)
  (fun g bw c9 b _ _=>match dv with
   | true=>⟨fun self T H=>wy self ((Ei g).g T) bw.toList c9 b T H⟩
   | false=>⟨fun _ _ _=>none⟩)
  (fun id=>⟨fun _ T H=>some ⟨.exit id,T,H⟩⟩)
  (fun _ _=>⟨fun _ _ _=>none⟩)
  (fun _=>⟨fun _ T H=>some ⟨.normal,T,H⟩⟩)
  (fun _=>⟨fun _ _ _=>none⟩)
  ⟨fun _ T H=>some ⟨.ret,T,H⟩⟩
  (fun _=>⟨fun _ _ _=>none⟩) c
def xI(self:hQ)(l:Nat)(args:List Value)(H:au):Option el:=match eZ H.ed l with
 | some r=>match Nat.beq (gi args) (gi r.bw)&&not (nA r)with
  | true=>GI ((dN P false r.c9).f self (wu r.T r.bw args) H) fun ft bB=>match Ca l bB with
   | some cJ=>GJ l ((dN P false r.body).f self ft cJ)
   | none=>none
  | false=>none
 | none=>none
structure ajV where f:hQ->List Value->au->Option el
def wA(dI:List ResultVar)(o:Option el):Option el:=match o with
 | some ⟨e,T,H⟩=>match e with
  | .exit _=>none
  | _=>match Ag P dI T H with
   | some v=>some ⟨.ret,[v],H⟩
   | none=>none
 | none=>none
def vf(f:FuncId):ajV:=
 match P.funcs.toList[f]? with
 | some fn=>match fn.body with
  | some c=>⟨fun self args H=>wA P fn.results.toList ((dN P true c).f self (iC args (gv (fn.ntmps-gi args) [undef])) H)⟩
  | none=>⟨fun _ _ _=>none⟩
 | none=>⟨fun _ _ _=>none⟩
def step(self:hQ):B3->Option el
 | .loop dv c T H=>nE ((dN P dv c).f self T H) fun T H=>self (.loop dv c T H)
 | .call f args H=>(vf P f).f self args H
 | .round l args H=>xI P self l args H
def run(n:Nat):hQ:=Nat.rec (motive:=fun _=>hQ) (fun _=>none) (fun _ bg t=>step P bg t) n
end
end
end Go.Ab
namespace Go.Ab
open Go
theorem ni{α:Type}(l:List α)(n:Nat):qB l n=l.take n:=by
 induction l generalizing n with
 | nil=>simp[qB]
 | cons x r bg=>cases n with
  | zero=>rfl
  | succ n=>simp_all[qB]
theorem n1{α:Type}(l:List α)(n:Nat):ry l n=l.drop n:=by
 induction l generalizing n with
 | nil=>simp[ry]
 | cons x r bg=>cases n with
  | zero=>rfl
  | succ n=>simp_all[ry]
theorem jm{α:Type}(l m:List α):iC l m=l++m:=by
 induction l with
 | nil=>rfl
 | cons x r bg=>simp_all[iC]
theorem hB{α:Type}(l:List α):gi l=l.length:=by
 have key:∀(l:List α) (n:Nat),(List.rec (motive:=fun _=>Nat->Nat) (fun n=>n) (fun _ _ bg n=>bg (Nat.succ n)) l n:Nat)=n+l.length:=by
  intro l;induction l with
  | nil=>grind
  | cons x r bg=>grind
 simp_all[gi]
theorem wB{α:Type}(l:List α)(n:Nat):o1 l n=l[n]?:=by
 induction l generalizing n with
 | nil=>rfl
 | cons x r bg=>cases n with
  | zero=>rfl
  | succ n=>simp_all[o1]
theorem kH{α:Type}(p:α->Bool)(l:List α):kh p l=l.all p:=by
 induction l with
 | nil=>rfl
 | cons x r bg=>show cond (p x) (kh p r) false=_;simp_all
theorem pI(l:List Value)(n:Nat):cf l n=l.getD n undef:=by
 induction l generalizing n with
 | nil=>rfl
 | cons x r bg=>cases n with
  | zero=>rfl
  | succ n=>simp_all[cf]
theorem pJ(l:List Value)(n:Nat)(v:Value):hs l n v=l.set n v:=by
 induction l generalizing n with
 | nil=>rfl
 | cons x r bg=>cases n with
  | zero=>rfl
  | succ n=>simp_all[hs]
theorem mE(m n:Nat):Nat.ble m n=decide (m<=n):=by
 cases h:Nat.ble m n
 grind[ble_eq_true_of_le]
 simp_all
theorem lf(a b:Int):kx a b=decide (a<=b):=by
 cases a with
 | ofNat m=>cases b with
  | ofNat n=>show Nat.ble m n=_;rw[mE];simp
  | negSucc n=>show false=_;grind
 | negSucc m=>cases b with
  | ofNat n=>rfl
  | negSucc n=>show Nat.ble n m=_;grind[mE]
theorem sq(a b:Int):pD a b=decide (a=b):=by
 cases a<;>cases b;rename_i m n;show Nat.beq m n=_;cases h:Nat.beq m n;symm;rw[decide_eq_false_iff_not];intro aT;injection aT with aT;simp_all
 simp_all
 rfl;rfl;rename_i m n;show Nat.beq n m=_;cases h:Nat.beq n m;symm;rw[decide_eq_false_iff_not];intro aT;simp_all
 simp_all
theorem OD(x:Value)(o:Option (List Value)):BR x o=o.map (x::·):=by cases o<;>rfl
theorem ajW(n:Nat)(l:List Value):Oi n l=l.drop n:=by
 induction n generalizing l with
 | zero=>rfl
 | succ n bg=>cases l with
  | nil=>rfl
  | cons x r=>simp_all[Oi]
theorem ajX(n:Nat)(l:List Value):Oj n l=if(l.take n).length=n then some (l.take n)else none:=by
 induction n generalizing l with
 | zero=>rfl
 | succ n bg=>cases l with
  | nil=>rfl
  | cons x r=>
   show BR x (Oj n r)=_
   simp_all[OD]
theorem ajY(l:List Value)(o n:Nat):Ok l o n=if((l.drop o).take n).length=n then some ((l.drop o).take n)else none:=by grind[Ok,ajX,ajW]
theorem ajZ(vs l:List Value):Gy vs l=if vs.length<=l.length then some (vs++l.drop vs.length)else none:=by
 induction vs generalizing l with
 | nil=>rfl
 | cons v vs bg=>cases l with
  | nil=>rfl
  | cons x r=>
   show BR v (Gy vs r)=_
   simp_all[OD]
theorem aj0(l:List Value)(o:Nat)(vs:List Value):Ol l o vs=if o+vs.length<=l.length then some (l.take o++(vs++l.drop (o+vs.length)))else none:=by
 unfold Ol;induction o generalizing l with
 | zero=>
  show Gy vs l=_
  grind[ajZ]
 | succ o bg=>cases l with
  | nil=>rw[if_neg (by simp)];rfl
  | cons x r=>
   show BR x (VM (Gy vs) o r)=_;rw[bg,OD]
   grind
theorem Cb(H:au)(id off n:Nat):s0 H id off n=match H.get id with
  | some b=>yI (qB (ry b.cells off) n) n
  | none=>none:=by
 unfold s0;cases H.get id with
 | none=>rfl
 | some b=>
  simp only[ajY,yI,ni,n1,hB];by_cases h:((b.cells.drop off).take n).length=n
  simp_all
  rw[if_neg h]
  grind[eq_of_beq_eq_true]
theorem JF(H:au)(id off:Nat)(vs:List Value):wi H id off vs=match H.get id with
  | some b=>
   match H.o2 id b&&(Nat.ble (off+gi vs) (gi b.cells)&&kh eL vs)with
   | true=>some (H.set id (some ⟨iC (qB b.cells off) (iC vs (ry b.cells (off+gi vs))),b.wr⟩))
   | false=>none
  | none=>none:=by
 unfold wi;cases H.get id with
 | none=>rfl
 | some b=>
  simp only[aj0,jm,ni,n1,hB];cases h1:H.o2 id b with
  | false=>rfl
  | true=>
   cases h2:kh eL vs with
   | false=>simp
   | true=>
    by_cases h:off+vs.length<=b.cells.length
    simp_all[ble_eq_true_of_le]
    rw[if_neg h];have:Nat.ble (off+vs.length) b.cells.length=false:=by
     cases ak:Nat.ble (off+vs.length) b.cells.length with
     | false=>rfl
     | true=>simp_all[le_of_ble_eq_true]
    simp_all
namespace Tr
variable{α:Type}
theorem GK(l r:Tr α)(v:Option α)(k:Nat):(Tr.lD l v r).get (k+1)=cond (Nat.beq (Nat.mod k 2) 0) (l.get (Nat.div k 2)) (r.get (Nat.div k 2)):=rfl
theorem Er(t:Tr α)(n m:Nat)(v:Option α)(b:α)(h:(t.set n v).get m=some b):(m=n/\v=some b)\/(m≠n/\t.get m=some b):=by
 induction t generalizing n m with
 | nil=>
  cases n with
  | zero=>cases m with
   | zero=>exact .inl ⟨rfl,h⟩
   | succ m=>have aT:cond (Nat.beq (Nat.mod m 2) 0) ((Tr.nil:Tr α).get (Nat.div m 2)) ((Tr.nil:Tr α).get (Nat.div m 2))=some b:=h;cases aB:Nat.beq (Nat.mod m 2) 0<;>rw[aB]at aT<;>cases aT
  | succ n=>cases h
 | lD l x r DZ D0=>
  cases n with
  | zero=>cases m with
   | zero=>exact .inl ⟨rfl,h⟩
   | succ m=>exact .inr ⟨by simp,h⟩
  | succ n=>
   have e:(Tr.lD l x r).set (n+1) v=cond (Nat.beq (Nat.mod n 2) 0) (.lD (l.set (Nat.div n 2) v) x r) (.lD l x (r.set (Nat.div n 2) v)):=rfl;rw[e]at h;cases m with
   | zero=>cases aB:Nat.beq (Nat.mod n 2) 0<;>rw[aB]at h<;>exact .inr ⟨by simp,h⟩
   | succ m=>
    have qF:∀k,Nat.mod k 2=k%2:=fun _=>rfl
    have p7:∀k,Nat.div k 2=k/2:=fun _=>rfl
    cases aB:Nat.beq (Nat.mod n 2) 0<;>rw[aB]at h<;>simp only[cond,GK]at h⊢ <;> cases hm:Nat.beq (Nat.mod m 2) 0<;>rw[hm]at h<;>simp only at h⊢
    grind[ne_of_beq_eq_false]
    grind
    grind
    grind[eq_of_beq_eq_true]
theorem aj1(t:Tr α)(n m:Nat)(v:Option α)(dC:m≠n):(t.set n v).get m=t.get m\/((t.set n v).get m=none/\t.get m=none):=by
 cases h:(t.set n v).get m with
 | some b=>grind[Er]
 | none=>cases aT:t.get m with
  | none=>simp_all
  | some b=>
   exfalso;induction t generalizing n m with
   | nil=>cases aT
   | lD l x r DZ D0=>
    cases n with
    | zero=>cases m with
     | zero=>omega
     | succ m=>
           have:(Tr.lD l x r).get (m+1)=none:=h
           simp_all
    | succ n=>
     have e:(Tr.lD l x r).set (n+1) v=cond (Nat.beq (Nat.mod n 2) 0) (.lD (l.set (Nat.div n 2) v) x r) (.lD l x (r.set (Nat.div n 2) v)):=rfl;rw[e]at h;cases m with
     | zero=>cases aB:Nat.beq (Nat.mod n 2) 0<;>rw[aB]at h<;>(have:x=none:=h)<;>(have:x=some b:=aT)<;>simp_all
     | succ m=>
      have qF:∀k,Nat.mod k 2=k%2:=fun _=>rfl
      have p7:∀k,Nat.div k 2=k/2:=fun _=>rfl
      cases aB:Nat.beq (Nat.mod n 2) 0<;>rw[aB]at h<;>simp only[cond,GK]at h aT<;>cases hm:Nat.beq (Nat.mod m 2) 0<;>rw[hm]at h aT<;>simp only at h aT
      grind[ne_of_beq_eq_false]
      simp_all
      simp_all
      grind[eq_of_beq_eq_true]
theorem l9(t:Tr α)(n m:Nat)(v:Option α)(dC:m≠n):(t.set n v).get m=t.get m:=by grind[aj1]
theorem Ai(t:Tr α)(n:Nat):(t.set n none).get n=none:=by
 cases h:(t.set n none).get n with
 | none=>rfl
 | some b=>
       rcases Er t n n none b h with⟨_,h2⟩|⟨h1,_⟩
       cases h2;omega
end Tr
end Go.Ab
namespace Go.Ab
open Go
abbrev c8:=Nat->Option (Nat×Nat×Nat)
inductive bL (σ:c8):List Value->List Value->Prop
 | nil:bL σ [] []
 | bool {r dY:List Value} (b:Bool):bL σ r dY->bL σ (.bool b::r) (.bool b::dY)
 | int {r dY:List Value} (k:IntKind) (n:Int):bL σ r dY->bL σ (.int k n::r) (.int k n::dY)
 | string {r dY:List Value} (s:ByteArray):bL σ r dY->bL σ (.string s::r) (.string s::dY)
 | yN {r dY:List Value}:bL σ r dY->bL σ (.pointer none::r) (.pointer none::dY)
 | ai {r dY:List Value} (id off c o s:Nat):σ id=some (c,o,s)->bL σ r dY->bL σ (.pointer (some ⟨id,off,none⟩)::r) (.pointer (some ⟨c,o+off,none⟩)::dY)
 | lg {r dY:List Value}:bL σ r dY->bL σ (.slice none 0 0::r) (.slice none 0 0::dY)
 | o5 {r dY:List Value} (id off len size c o s:Nat) (a:Addr):σ id=some (c,o,s)->0<size->(len=0\/(a=⟨c,o+off,none⟩/\o+off+len*size<=s))->bL σ r dY->
   bL σ (.slice (some ⟨id,off,none⟩) len (2*size+1)::r) (.slice (some a) len len::dY)
 | oL {r dY:List Value} (id off len size cap c o s:Nat) (a:Addr):σ id=some (c,o,s)->0<size->len<=cap->
   ((a=⟨c,o+off,none⟩/\o+off+cap*size<=s)\/(len=0/\cap=0))->bL σ r dY->
   bL σ (.slice (some ⟨id,off,none⟩) len (2*size)::r) (.slice (some a) len cap::dY)
 | yO {r dY:List Value}:bL σ r dY->bL σ (.map none::r) (.map none::dY)
 | yP {r dY:List Value} (id c o s:Nat):σ id=some (c,o,s)->bL σ r dY->bL σ (.map (some id)::r) (.map (some c)::dY)
 | func {r dY:List Value} (f:FuncId) (x bR y eW:Array Value):bL σ x.toList bR.toList->bL σ y.toList eW.toList->bL σ r dY->bL σ (.func (.func f) x y::r) (.func (.func f) bR eW::dY)
 | sm {r dY:List Value} (id c o s:Nat):σ id=some (c,o,s)->bL σ r dY->bL σ (.func (.yield id) #[] #[]::r) (.func (.yield c) #[] #[]::dY)
 | nilFunc {r dY:List Value}:bL σ r dY->bL σ (.nilFunc::r) (.nilFunc::dY)
 | nilIface {r dY:List Value}:bL σ r dY->bL σ (.nilIface::r) (.nilIface::dY)
 | iface {r dY:List Value} (t:TypeId) (v aQ:Value):bL σ [v] [aQ]->bL σ r dY->bL σ (.iface t v::r) (.iface t aQ::dY)
 | agg {r dY:List Value} (x bR:Array Value):bL σ x.toList bR.toList->bL σ r dY->bL σ (.agg x::r) (.agg bR::dY)
 | tuple {r dY:List Value} (x bR:Array Value):bL σ x.toList bR.toList->bL σ r dY->bL σ (.tuple x::r) (.tuple bR::dY)
abbrev cq(σ:c8)(v aQ:Value):Prop:=bL σ [v] [aQ]
section
variable{σ τ:c8}
theorem bL.cons{v aQ:Value}{r dY:List Value}(h:cq σ v aQ)(U:bL σ r dY):bL σ (v::r) (aQ::dY):=by
 cases h
 case bool b _=>exact .bool b U
 case int k n _=>exact .int k n U
 case string s _=>exact .string s U
 case yN _=>exact .yN U
 case ai id off c o s aJ _=>exact .ai id off c o s aJ U
 case lg _=>exact .lg U
 case o5 id off len size c o s a aJ h1 h2 _=>exact .o5 id off len size c o s a aJ h1 h2 U
 case oL id off len size cap c o s a aJ h1 h2 h3 _=>exact .oL id off len size cap c o s a aJ h1 h2 h3 U
 case yO _=>exact .yO U
 case yP id c o s aJ _=>exact .yP id c o s aJ U
 case func f x bR y eW h1 h2 _=>exact .func f x bR y eW h1 h2 U
 case sm id c o s aJ _=>exact .sm id c o s aJ U
 case nilFunc _=>exact .nilFunc U
 case nilIface _=>exact .nilIface U
 case iface t w aW h1 _=>exact .iface t w aW h1 U
 case agg x bR h1 _=>exact .agg x bR h1 U
 case tuple x bR h1 _=>exact .tuple x bR h1 U
theorem bL.nF{v:Value}{r l:List Value}(h:bL σ (v::r) l):∃aQ dY,l=aQ::dY/\cq σ v aQ/\bL σ r dY:=by
 cases h
 case bool dY b h=>exact⟨_,_,rfl,.bool b .nil,h⟩
 case int dY k n h=>exact⟨_,_,rfl,.int k n .nil,h⟩
 case string dY s h=>exact⟨_,_,rfl,.string s .nil,h⟩
 case yN dY h=>exact⟨_,_,rfl,.yN .nil,h⟩
 case ai dY id off c o s aJ h=>exact⟨_,_,rfl,.ai id off c o s aJ .nil,h⟩
 case lg dY h=>exact⟨_,_,rfl,.lg .nil,h⟩
 case o5 dY id off len size c o s a aJ h1 h2 h=>exact⟨_,_,rfl,.o5 id off len size c o s a aJ h1 h2 .nil,h⟩
 case oL dY id off len size cap c o s a aJ h1 h2 h3 h=>exact⟨_,_,rfl,.oL id off len size cap c o s a aJ h1 h2 h3 .nil,h⟩
 case yO dY h=>exact⟨_,_,rfl,.yO .nil,h⟩
 case yP dY id c o s aJ h=>exact⟨_,_,rfl,.yP id c o s aJ .nil,h⟩
 case func dY f x bR y eW h1 h2 h=>exact⟨_,_,rfl,.func f x bR y eW h1 h2 .nil,h⟩
 case sm dY id c o s aJ h=>exact⟨_,_,rfl,.sm id c o s aJ .nil,h⟩
 case nilFunc dY h=>exact⟨_,_,rfl,.nilFunc .nil,h⟩
 case nilIface dY h=>exact⟨_,_,rfl,.nilIface .nil,h⟩
 case iface dY t w aW h1 h=>exact⟨_,_,rfl,.iface t w aW h1 .nil,h⟩
 case agg dY x bR h1 h=>exact⟨_,_,rfl,.agg x bR h1 .nil,h⟩
 case tuple dY x bR h1 h=>exact⟨_,_,rfl,.tuple x bR h1 .nil,h⟩
theorem bL.rE{l:List Value}(h:bL σ [] l):l=[]:=by cases h;rfl
theorem bL.length{l aA:List Value}(h:bL σ l aA):l.length=aA.length:=by
 induction l generalizing aA with
 | nil=>rw[h.rE]
 | cons v r bg=>obtain⟨aQ,dY,rfl,_,U⟩:=h.nF;grind
theorem bL.mono(hm:∀id x,σ id=some x->τ id=some x){l aA:List Value}(h:bL σ l aA):bL τ l aA:=by
 induction h with
 | nil=>exact .nil
 | bool b _ bg=>exact .bool b bg
 | int k n _ bg=>exact .int k n bg
 | string s _ bg=>exact .string s bg
 | yN _ bg=>exact .yN bg
 | ai id off c o s aJ _ bg=>exact .ai id off c o s (hm _ _ aJ) bg
 | lg _ bg=>exact .lg bg
 | o5 id off len size c o s a aJ h1 h2 _ bg=>exact .o5 id off len size c o s a (hm _ _ aJ) h1 h2 bg
 | oL id off len size cap c o s a aJ h1 h2 h3 _ bg=>exact .oL id off len size cap c o s a (hm _ _ aJ) h1 h2 h3 bg
 | yO _ bg=>exact .yO bg
 | yP id c o s aJ _ bg=>exact .yP id c o s (hm _ _ aJ) bg
 | func f x bR y eW _ _ _ i1 k2 bg=>exact .func f x bR y eW i1 k2 bg
 | sm id c o s aJ _ bg=>exact .sm id c o s (hm _ _ aJ) bg
 | nilFunc _ bg=>exact .nilFunc bg
 | nilIface _ bg=>exact .nilIface bg
 | iface t v aQ _ _ i1 bg=>exact .iface t v aQ i1 bg
 | agg x bR _ _ i1 bg=>exact .agg x bR i1 bg
 | tuple x bR _ _ i1 bg=>exact .tuple x bR i1 bg
theorem bL.append{l aA m k3:List Value}(h:bL σ l aA)(k:bL σ m k3):bL σ (l++m) (aA++k3):=by
 induction l generalizing aA with
 | nil=>rw[h.rE];exact k
 | cons v r bg=>obtain⟨aQ,dY,rfl,hv,U⟩:=h.nF;exact(hv.cons (bg U))
theorem bL.take{l aA:List Value}(h:bL σ l aA)(n:Nat):bL σ (l.take n) (aA.take n):=by
 induction l generalizing aA n with
 | nil=>rw[h.rE];simp;exact .nil
 | cons v r bg=>
  obtain⟨aQ,dY,rfl,hv,U⟩:=h.nF;cases n with
  | zero=>exact .nil
  | succ n=>exact hv.cons (bg U n)
theorem bL.drop{l aA:List Value}(h:bL σ l aA)(n:Nat):bL σ (l.drop n) (aA.drop n):=by
 induction l generalizing aA n with
 | nil=>rw[h.rE];simp;exact .nil
 | cons v r bg=>
  obtain⟨aQ,dY,rfl,hv,U⟩:=h.nF;cases n with
  | zero=>simp_all
  | succ n=>grind
theorem bL.get{l aA:List Value}(h:bL σ l aA)(n:Nat)(v:Value)(hv:l[n]?=some v):∃aQ,aA[n]?=some aQ/\cq σ v aQ:=by
 induction l generalizing aA n with
 | nil=>simp at hv
 | cons x r bg=>
  obtain⟨bR,dY,rfl,ao,U⟩:=h.nF
  grind
theorem bL.set{l aA:List Value}(h:bL σ l aA)(n:Nat){v aQ:Value}(hv:cq σ v aQ):bL σ (l.set n v) (aA.set n aQ):=by
 induction l generalizing aA n with
 | nil=>rw[h.rE];simp;exact .nil
 | cons x r bg=>
  obtain⟨bR,dY,rfl,ao,U⟩:=h.nF;cases n with
  | zero=>exact hv.cons U
  | succ n=>exact ao.cons (bg U n)
theorem cq.undef:cq σ undef undef:=.tuple _ _ .nil .nil
theorem bL.getD{l aA:List Value}(h:bL σ l aA)(n:Nat):cq σ (l.getD n undef) (aA.getD n undef):=by
 cases aU:l[n]? with
 | none=>
  have h1:=List.getElem?_eq_none_iff.1 aU;have h2:aA[n]?=none:=List.getElem?_eq_none_iff.2 (by have:=h.length;omega)
  simp_all[cq.undef]
 | some v=>obtain⟨u,bf,U⟩:=h.get n v aU;simp_all
theorem bL.VX{α:Type}(k:IntKind)(g:α->Int)(l:List α):bL σ (l.map fun x=>.int k (g x)) (l.map fun x=>.int k (g x)):=by
 induction l with
 | nil=>exact .nil
 | cons x r bg=>exact .int k (g x) bg
theorem GL{v:Value}(h:D9 v=true):cq σ v v:=by
 cases v with
 | bool b=>exact .bool b .nil
 | int k n=>exact .int k n .nil
 | string s=>exact .string s .nil
 | pointer a=>cases a with
  | none=>exact .yN .nil
  | some a=>cases h
 | slice a n c=>cases a with
  | none=>simp only[D9,Bool.and_eq_true]at h;obtain rfl:=eq_of_beq_eq_true h.1;obtain rfl:=eq_of_beq_eq_true h.2;exact .lg .nil
  | some a=>cases h
 | map r=>cases r with
  | none=>exact .yO .nil
  | some a=>cases h
 | func fn x y=>cases fn with
  | func f=>simp only[D9,Bool.and_eq_true,hB]at h;have h1:=eq_of_beq_eq_true h.1;have h2:=eq_of_beq_eq_true h.2;have a7:x.toList=[]:=length_eq_zero_iff.1 h1;have bt:y.toList=[]:=length_eq_zero_iff.1 h2;exact .func f x x y y (by rw[a7];exact .nil) (by rw[bt];exact .nil) .nil
  | _=>cases h
 | nilFunc=>exact .nilFunc .nil
 | nilIface=>exact .nilIface .nil
 | _=>cases h
theorem aj2{l:List Value}(h:kh D9 l=true):bL σ l l:=by
 rw[kH]at h;induction l with
 | nil=>exact .nil
 | cons v r bg=>rw[all_cons,Bool.and_eq_true]at h;exact(GL h.1).cons (bg h.2)
theorem wC{v:Value}(h:Ea v=true):cq σ v v:=by
 cases v with
 | agg aq=>exact .agg aq aq (aj2 h) .nil
 | tuple vs=>simp only[Ea,hB]at h;have e:vs.toList=[]:=length_eq_zero_iff.1 (eq_of_beq_eq_true h);exact .tuple vs vs (by rw[e];exact .nil) .nil
 | bool b=>exact .bool b .nil
 | int k n=>exact .int k n .nil
 | string s=>exact .string s .nil
 | pointer a=>exact GL h
 | slice a n c=>exact GL h
 | map r=>exact GL h
 | func fn x y=>exact GL h
 | nilFunc=>exact .nilFunc .nil
 | nilIface=>exact .nilIface .nil
 | float k b=>cases h
 | complex k a b=>cases h
 | chan r=>cases h
 | iface t v=>cases h
theorem cq.cells{v aQ:Value}(h:cq σ v aQ):bL σ (dr v) aQ.cells.toList:=by
 cases h
 case agg x bR h1 _=>exact h1
 case bool b _=>exact .bool b .nil
 case int k n _=>exact .int k n .nil
 case string s _=>exact .string s .nil
 case yN _=>exact .yN .nil
 case ai id off c o s aJ _=>exact .ai id off c o s aJ .nil
 case lg _=>exact .lg .nil
 case o5 id off len size c o s a aJ h1 h2 _=>exact .o5 id off len size c o s a aJ h1 h2 .nil
 case oL id off len size cap c o s a aJ h1 h2 h3 _=>exact .oL id off len size cap c o s a aJ h1 h2 h3 .nil
 case yO _=>exact .yO .nil
 case yP id c o s aJ _=>exact .yP id c o s aJ .nil
 case func f x bR y eW h1 h2 _=>exact .func f x bR y eW h1 h2 .nil
 case sm id c o s aJ _=>exact .sm id c o s aJ .nil
 case nilFunc _=>exact .nilFunc .nil
 case nilIface _=>exact .nilIface .nil
 case iface t w aW h1 _=>exact .iface t w aW h1 .nil
 case tuple x bR h1 _=>exact .tuple x bR h1 .nil
end
def VY(σ:c8)(w:World)(id:Nat)(b:ax):Prop:=
 ∃c o s dD de eC,σ id=some (c,o,s)/\w.heap[c]?=some (.cells dD de eC)/\dD.size=s/\o+b.cells.length<=s/\
  bL σ b.cells ((dD.toList.drop o).take b.cells.length)/\(b.wr=true->eC.1<=eC.2/\∀i,i<s->(eC.1<=i&&i<eC.2)=false)
structure ky (σ:c8) (B:Nat) (h:Nat->Option ax) (w:World):Prop where
 ga:∀id b,h id=some b->VY σ w id b
 own:∀id b,h id=some b->b.wr=true->∃c o s,σ id=some (c,o,s)/\B<=c
 lU:∀i j iU gI,i≠j->h i=some iU->h j=some gI->iU.wr=true->∀c o s bV dK cl,σ i=some (c,o,s)->σ j=some (bV,dK,cl)->c≠bV
def OE(σ:c8)(h:Nat->Option ax)(c:Nat):Prop:=∃id b o s,h id=some b/\b.wr=true/\σ id=some (c,o,s)
structure lV (B:Nat) (σ:c8) (h:Nat->Option ax) (n:Nat) (w:World) (τ:c8) (aT:Nat->Option ax) (mC:Nat) (aW:World):Prop where
 gb:ky τ B aT aW
 dO:n<=mC
 ext:∀id,id<n\/mC<=id->τ id=σ id
 mono:∀id x,σ id=some x->τ id=some x
 os:aW.os=w.os
 tape:aW.tape=w.tape
 output:aW.output=w.output
 size:w.heap.size<=aW.heap.size
 lE:∀c,c<w.heap.size->¬OE σ h c->aW.heap[c]?=w.heap[c]?
 ub:∀c,OE τ aT c->c<w.heap.size->OE σ h c
theorem lV.refl{B:Nat}{σ:c8}{h:Nat->Option ax}{n:Nat}{w:World}(al:ky σ B h w):lV B σ h n w σ h n w:=
 ⟨al,Nat.le_refl _,fun _ _=>rfl,fun _ _ h=>h,rfl,rfl,rfl,Nat.le_refl _,fun _ _ _=>rfl,fun _ h _=>h⟩
theorem lV.trans{B:Nat}{σ τ jB:c8}{h h1 h2:Nat->Option ax}{n fo fN:Nat}{w dT fb:World}(a:lV B σ h n w τ h1 fo dT)(b:lV B τ h1 fo dT jB h2 fN fb):
  lV B σ h n w jB h2 fN fb:=by
 refine⟨b.gb,Nat.le_trans a.dO b.dO,fun id fp=>?_,fun id x ao=>b.mono _ _ (a.mono _ _ ao),b.os.trans a.os,b.tape.trans a.tape,b.output.trans a.output,Nat.le_trans a.size b.size,
  fun c aB eU=>?_,fun c bM aB=>a.ub c (b.ub c bM (Nat.lt_of_lt_of_le aB a.size)) aB⟩
 have h1:=a.dO;have h2:=b.dO;rw[b.ext id (by omega),a.ext id (by omega)];rw[b.lE c (Nat.lt_of_lt_of_le aB a.size) (fun bM=>eU (a.ub c bM aB)),a.lE c aB eU]
open Classical in
noncomputable def iE(h:Nat->Option ax)(H ab:au):Nat->Option ax:=fun id=>if ab.get id=H.get id then h id else ab.get id
def OF(H:au)(h:Nat->Option ax):Prop:=∀id b,H.get id=some b->h id=some b
theorem Cc(h:Nat->Option ax)(H:au):iE h H H=h:=by grind[iE]
theorem OF.iE{H ab:au}{h:Nat->Option ax}(al:OF H h):OF ab (iE h H ab):=by intro id b ak;unfold Ab.iE;split;rename_i e;exact al id b (e▸ak);omega
end Go.Ab
namespace Go.Ab
open Go
section
variable{P:Program}
theorem Es(c o i:Nat):(⟨c,o,none⟩:Addr).add i=⟨c,o+i,none⟩:=by simp_all[Addr.add]
theorem aj3(w:World)(c off n:Nat)(dD:Array Value)(t:TypeId)(eC:Nat×Nat)(hg:w.heap[c]?=some (.cells dD t eC))(aU:off+n<=dD.size):
  (loadCells ⟨c,off,none⟩ n).run P w=.ok ((dD.toList.drop off).take n).toArray w:=by
 have aD:((dD.toList.drop off).take n).length=n:=by grind
 have:=run_loadCells_list (P:=P) w ⟨c,off,none⟩ ((dD.toList.drop off).take n) (fun j v hv=>by simp_all[Es,List.getElem?_take,World.cell?])
 simp_all
theorem aj4(w:World)(c i:Nat)(dD:Array Value)(t:TypeId)(eC:Nat×Nat)(hg:w.heap[c]?=some (.cells dD t eC)):w.frozen? ⟨c,i,none⟩=(eC.1<=i&&i<eC.2):=by simp_all[World.frozen?]
theorem OG(g o:Nat)(t:TypeId)(eC:Nat×Nat):∀(vs:List Value) (i:Nat) (qG:Array Value) (w:World),w.heap[g]?=some (.cells qG t eC)->o+i+vs.length<=qG.size->(∀v∈vs,v.oneCell'=true)->
  (∀j,j<qG.size->(eC.1<=j&&j<eC.2)=false)->
  (storeCells ⟨g,o,none⟩ vs i).run P w=.ok () (w.setRow g (qG.toList.take (o+i)++vs++qG.toList.drop (o+i+vs.length)).toArray)
 | [],i,qG,w,hg,_,_,_=>by simp only[storeCells,append_nil,length_nil,Nat.add_zero,take_append_drop,Array.toArray_toList];rw[setRow_self w g qG t eC hg];rfl
 | v::ef,i,qG,w,hg,aD,h1,hf=>by
  have an:o+i<qG.size:=by simp at aD;omega
  have GM:w.cell? ⟨g,o+i,none⟩=some qG[o+i]:=by simp[World.cell?,hg,an]
  have aj5:w.frozen? ⟨g,o+i,none⟩=false:=by rw[aj4 w g (o+i) qG t eC hg];exact hf _ an
  have ev:(store ((⟨g,o,none⟩:Addr).add i) v).run P w=.ok () (w.setRow g (qG.setIfInBounds (o+i) v)):=by rw[Es,run_store P w _ v _ (h1 v (by simp)),GM];simp[aj5,setCell_eq_setRow w g (o+i) qG t eC v hg]
  have bg:=OG g o t eC ef (i+1) (qG.setIfInBounds (o+i) v) (w.setRow g (qG.setIfInBounds (o+i) v)) (setRow_heap w g qG _ t _ hg) (by simp at aD⊢;omega) (fun x ao=>h1 x (by simp[ao])) (by simpa using hf);simp only[storeCells,Sem.run_bind,ev,Result.andThen_ok,bg,setRow_setRow]
  congr 3
  have e:=list_seg_step qG.toList (o+i) v ef (by simp at aD⊢;omega);simpa [Array.toList_setIfInBounds,Nat.add_assoc]using e
end
namespace Tr
variable{α:Type}
theorem VZ(t:Tr α)(n:Nat)(v:Option α)(b:α)(h:t.get n=some b):(t.set n v).get n=v:=by
 induction t generalizing n with
 | nil=>cases h
 | lD l x r DZ D0=>
  cases n with
  | zero=>rfl
  | succ n=>
   have e:(Tr.lD l x r).set (n+1) v=cond (Nat.beq (Nat.mod n 2) 0) (.lD (l.set (Nat.div n 2) v) x r) (.lD l x (r.set (Nat.div n 2) v)):=rfl;rw[e];rw[GK]at h;cases aB:Nat.beq (Nat.mod n 2) 0<;>rw[aB]at h<;>simp only[cond,GK]at h⊢ <;> rw[aB]
   grind
   simp_all
end Tr
section
variable{σ τ:c8}{B n:Nat}{h aT:Nat->Option ax}{w:World}
theorem ky.V6(al:ky σ B h w){id:Nat}{b:ax}(ak:h id=some b){c o s:Nat}(aB:σ id=some (c,o,s)):c<w.heap.size:=by
 obtain⟨bV,dK,cl,dD,de,eC,h1,h2,_⟩:=al.ga id b ak
 grind
theorem V7(al:ky σ B h w)(b6:B<=w.heap.size)(id:Nat)(fp:σ id=none)(aq bE ef:List Value)(t:TypeId)(eC:Nat×Nat)(aB:bL σ aq bE)
  (cW:eC.1<=eC.2/\∀i,i<bE.length+ef.length->(eC.1<=i&&i<eC.2)=false) (k:Nat) (aT:Nat->Option ax) (aD:∀i b,aT i=some b->(i=id/\b=⟨aq,true⟩)\/(i≠id/\h i=some b)):
  lV B σ h id w (fun i=>if i=id then some (w.heap.size,0,bE.length+ef.length)else σ i) aT (id+1)
   {w with heap:=w.heap.push (.cells (bE++ef).toArray t eC),drawn:=k}:=by
 let τ:c8:=fun i=>if i=id then some (w.heap.size,0,bE.length+ef.length)else σ i
 have Cd:∀i x,σ i=some x->τ i=some x:=fun i x ao=>by grind
 have n2:∀i b,h i=some b->i≠id:=fun i b ak e=>by
  obtain⟨c,o,s,_,_,_,h1,_⟩:=al.ga i b ak
  simp_all
 have aj6:τ id=some (w.heap.size,0,bE.length+ef.length):=if_pos rfl;have ma:∀i,i≠id->τ i=σ i:=fun i dC=>if_neg dC
 have hlen:=aB.length;refine⟨⟨?_,?_,?_⟩,by omega,?_,Cd,rfl,rfl,rfl,by simp,?_,?_⟩;intro i b ak;rcases aD i b ak with⟨rfl,rfl⟩|⟨dC,kj⟩
 refine⟨w.heap.size,0,_,(bE++ef).toArray,t,eC,aj6,by simp,by simp,by grind,?_,fun _=>cW⟩;have:((bE++ef).toArray.toList.drop 0).take aq.length=bE:=by grind
 simp only[this];exact aB.mono Cd;obtain⟨c,o,s,dD,de,JG,h1,h2,h3,aG,a6,bq⟩:=al.ga i b kj;have dw:c<w.heap.size:=(Array.getElem?_eq_some_iff.1 h2).1;refine⟨c,o,s,dD,de,JG,(ma i dC).trans h1,?_,h3,aG,a6.mono Cd,bq⟩
 grind
 intro i b ak aM;rcases aD i b ak with⟨rfl,rfl⟩|⟨dC,kj⟩
 simp_all
 obtain⟨c,o,s,h1,h2⟩:=al.own i b kj aM
 simp_all
 intro i j iU gI dC an bm aM c o s bV dK cl h1 h2;have h1:τ i=some (c,o,s):=h1;have h2:τ j=some (bV,dK,cl):=h2;rcases aD i iU an with⟨xJ,rfl⟩|⟨wD,fu⟩
 rcases aD j gI bm with⟨Ce,rfl⟩|⟨Aj,pK⟩
 omega;rw[ma j Aj]at h2;have dw:=al.V6 pK h2
 grind
 rw[ma i wD]at h1;rcases aD j gI bm with⟨Ce,rfl⟩|⟨Aj,pK⟩
 have dw:=al.V6 fu h1
 grind
 rw[ma j Aj]at h2;exact al.lU i j iU gI dC fu pK aM c o s bV dK cl h1 h2
 grind
 grind
 rintro c ⟨i,b,o,s,ak,aM,gX⟩ dw;have gX:τ i=some (c,o,s):=gX;rcases aD i b ak with⟨xJ,rfl⟩|⟨dC,kj⟩
 simp_all
 exact⟨i,b,o,s,kj,aM,(ma i dC).symm.trans gX⟩
theorem aj7(al:ky σ B h w)(id off:Nat)(b:ax)(ak:h id=some b)(aM:b.wr=true)(vs nG:List Value)(hv:bL σ vs nG)(hlen:off+vs.length<=b.cells.length)
  (c o s:Nat) (dD:Array Value) (de:TypeId) (eC:Nat×Nat) (h1:σ id=some (c,o,s)) (h2:w.heap[c]?=some (.cells dD de eC))
  (aT:Nat->Option ax) (aD:∀i di,aT i=some di->(i=id/\di=⟨b.cells.take off++vs++b.cells.drop (off+vs.length),b.wr⟩)\/(i≠id/\h i=some di)):
  lV B σ h n w σ aT n (w.setRow c (dD.toList.take (o+off)++nG++dD.toList.drop (o+off+nG.length)).toArray):=by
 have V8:=hv.length;obtain⟨bV,dK,cl,s7,V9,JG,a7,bt,ei,h6,hR,ih⟩:=al.ga id b ak;rw[h1]at a7;cases a7;rw[h2]at bt;cases bt;have dw:c<w.heap.size:=(Array.getElem?_eq_some_iff.1 h2).1;have eU:∀j gI,j≠id->h j=some gI->∀bV dK cl,σ j=some (bV,dK,cl)->bV≠c:=fun j gI dC bm bV dK cl gX e=>al.lU id j b gI (Ne.symm dC) ak bm aM c o s bV dK cl h1 gX e.symm
 refine⟨⟨?_,?_,?_⟩,Nat.le_refl _,fun _ _=>rfl,fun _ _ h=>h,rfl,rfl,rfl,by simp,?_,?_⟩;intro i di kj;rcases aD i di kj with⟨rfl,rfl⟩|⟨dC,qH⟩
 refine⟨c,o,s,_,de,eC,h1,setRow_heap w c dD _ de eC h2,?_,?_,?_,ih⟩
 grind
 grind
 have Cf:(b.cells.take off++vs++b.cells.drop (off+vs.length)).length=b.cells.length:=by grind
 simp only[Cf];have GN:((dD.toList.take (o+off)++nG++dD.toList.drop (o+off+nG.length)).drop o).take b.cells.length=
   (((dD.toList.drop o).take b.cells.length).take off++nG++((dD.toList.drop o).take b.cells.length).drop (off+nG.length)):=by
  apply ext_getElem?;intro k;simp only[List.getElem?_take,List.getElem?_drop,List.getElem?_append,length_append,length_take,length_drop,Array.length_toList];have cU:min (o+off) dD.size=o+off:=by omega
  have cR:min b.cells.length (dD.size-o)=b.cells.length:=by omega
  have a3:min off b.cells.length=off:=by omega
  grind
 have qF:((dD.toList.take (o+off)++nG++dD.toList.drop (o+off+nG.length)).toArray.toList.drop o).take b.cells.length=
   (((dD.toList.drop o).take b.cells.length).take off++nG++((dD.toList.drop o).take b.cells.length).drop (off+nG.length)):=GN
 rw[qF,<- V8];exact((hR.take off).append hv).append (hR.drop (off+vs.length));obtain⟨cr,dL,cP,Cg,Ch,yQ,cg,cd,g3,g4,g5,lh⟩:=al.ga i di qH;refine⟨cr,dL,cP,Cg,Ch,yQ,cg,?_,g3,g4,g5,lh⟩
 grind[setRow_other]
 intro i di kj wE;rcases aD i di kj with⟨rfl,rfl⟩|⟨dC,qH⟩
 exact al.own i b ak aM;exact al.own i di qH wE;intro i j iU gI dC an bm Ci;have aj8:∃JH,h i=some JH/\JH.wr=iU.wr:=by grind
 have aj9:∃OH,h j=some OH:=by grind
 obtain⟨JH,fu,Ak⟩:=aj8;obtain⟨OH,pK⟩:=aj9;exact al.lU i j JH OH dC fu pK (Ak.trans Ci);intro k ah GO;refine setRow_other w c k _ ?_;intro e;subst e;exact GO ⟨id,b,o,s,ak,aM,h1⟩;rintro k ⟨i,di,dK,cl,kj,wE,gX⟩ _;rcases aD i di kj with⟨rfl,rfl⟩|⟨dC,qH⟩
 exact⟨i,b,dK,cl,ak,aM,gX⟩;exact⟨i,di,dK,cl,qH,wE,gX⟩
theorem aka(al:ky σ B h w)(id:Nat)(b:ax)(ak:h id=some b)(aM:b.wr=true)(c o s:Nat)(dD:Array Value)(de:TypeId)(eC:Nat×Nat)(h1:σ id=some (c,o,s))(h2:w.heap[c]?=some (.cells dD de eC)):
  lV B σ h n w σ h n (w.freeze {block:=c,off:=dD.size} 1):=by
 obtain⟨bV,dK,cl,s7,V9,JG,a7,bt,ei,h6,hR,ih⟩:=al.ga id b ak;rw[h1]at a7;cases a7;rw[h2]at bt;cases bt;have dw:c<w.heap.size:=(Array.getElem?_eq_some_iff.1 h2).1
 let dT:=w.freeze {block:=c,off:=dD.size} 1
 have dC:∀i,i≠c->dT.heap[i]?=w.heap[i]?:=fun i an=>by
  show(World.freeze w {block:=c,off:=dD.size} 1).heap[i]?=_
  simp_all[World.freeze,Array.getElem?_modify,Ne.symm]
 have akb:dT.heap[c]?=some (.cells dD de (if eC.1==eC.2 then(dD.size,dD.size+1)else(min eC.1 dD.size,max eC.2 (dD.size+1)))):=by
  show(World.freeze w {block:=c,off:=dD.size} 1).heap[c]?=_;unfold World.freeze
  grind
 have JI:dT.heap.size=w.heap.size:=by
  show(World.freeze w {block:=c,off:=dD.size} 1).heap.size=_
  simp_all[World.freeze]
 have OI:dT.os=w.os/\dT.tape=w.tape/\dT.output=w.output:=by
  show(World.freeze w {block:=c,off:=dD.size} 1).os=_/\(World.freeze w {block:=c,off:=dD.size} 1).tape=_/\(World.freeze w {block:=c,off:=dD.size} 1).output=_
  simp_all[World.freeze]
 have eU:∀j gI,j≠id->h j=some gI->∀bV dK cl,σ j=some (bV,dK,cl)->bV≠c:=fun j gI dC bm bV dK cl gX e=>al.lU id j b gI (Ne.symm dC) ak bm aM c o s bV dK cl h1 gX e.symm
 refine⟨⟨?_,al.own,al.lU⟩,Nat.le_refl _,fun _ _=>rfl,fun _ _ h=>h,OI.1,OI.2.1,OI.2.2,Nat.le_of_eq JI.symm,?_,fun _ h _=>h⟩;intro i di kj;by_cases an:i=id;subst an;rw[ak]at kj;cases kj;refine⟨c,o,s,dD,de,_,h1,akb,ei,h6,hR,fun _=>?_⟩;obtain⟨gY,gZ⟩:=ih aM;obtain⟨fm,an⟩:=eC;simp only at gY gZ⊢;by_cases he:fm=an
 grind
 have s8:s<=fm:=by grind
 grind
 obtain⟨cr,dL,cP,Cg,Ch,yQ,cg,cd,g3,g4,g5,lh⟩:=al.ga i di kj;exact⟨cr,dL,cP,Cg,Ch,yQ,cg,by grind,g3,g4,g5,lh⟩;intro k ah GO;refine dC k fun e=>GO ?_
 subst e;exact⟨id,b,o,s,ak,aM,h1⟩
end
end Go.Ab
namespace Go.Ab
open Go
theorem qI(m n:Nat):Nat.blt m n=decide (m<n):=by grind[Nat.blt,mE]
theorem JJ(pE iM:Nat)(aM:iM=2*pE)(bJ:0<pE)(n:Int):
  u2 pE iM n=if n%(iM:Int)<pE then n%(iM:Int)else n%(iM:Int)-iM:=by
 cases n with
 | ofNat m=>
  simp only[u2,Int.ofNat_eq_natCast];have e:((m:Int)%(iM:Int))=((m%iM:Nat):Int):=by omega
  rw[e];cases h:Nat.blt m pE with
  | true=>
   have:m<pE:=by simp_all
   have hm:m%iM=m:=mod_eq_of_lt (by omega)
   simp_all
  | false=>
   cases h2:Nat.blt (m%iM) pE with
   | true=>
    have:m%iM<pE:=by simp_all
    grind
   | false=>
    have h3:¬m%iM<pE:=by simp_all[qI]
    have aG:m%iM<iM:=mod_lt _ (by omega)
    grind
 | negSucc m=>
  simp only[u2];have e:(Int.negSucc m%(iM:Int))=((iM-1-m%iM:Nat):Int):=by have aG:m%iM<iM:=mod_lt _ (by omega);rw[Int.negSucc_emod m (by omega)];omega
  rw[e];have aG:m%iM<iM:=mod_lt _ (by omega);cases h:Nat.blt m pE with
  | true=>
   have:m<pE:=by simp_all
   have hm:m%iM=m:=mod_eq_of_lt (by omega)
   grind
  | false=>
   cases h2:Nat.blt (m%iM) pE with
   | true=>
    have:m%iM<pE:=by simp_all
    grind
   | false=>
    have h3:¬m%iM<pE:=by simp_all[qI]
    grind
theorem Wa(iM:Nat)(bJ:0<iM)(n:Int):rz iM n=n%(iM:Int):=by
 cases n with
 | ofNat m=>rfl
 | negSucc m=>simp only[rz,Int.ofNat_eq_natCast];have aG:m%iM<iM:=mod_lt _ bJ;rw[Int.negSucc_emod m (by omega)];omega
theorem vg(k:IntKind)(n:Int):iN k n=k.wrap n:=by
 cases k<;>simp only[iN,IntKind.wrap,IntKind.bits,IntKind.signed]
 ·grind[JJ]
 ·grind[JJ]
 ·grind[JJ]
 ·grind[JJ]
 all_goals rw[Wa _ (by omega)];simp
theorem JK(k:IntKind)(n:Int):o3 k n=(BitVec.ofInt k.bits n).toNat:=by rw[BitVec.toNat_ofInt];cases k<;>simp only[o3,IntKind.bits]<;>rw[Wa _ (by omega)]<;>rfl
theorem Wb{k e6:IntKind}(h:u1 k e6=true):k=e6:=by cases k<;>cases e6<;>first|rfl|cases h
section
variable{P:Program}{σ:c8}
theorem cq.o6{k:IntKind}{n:Int}{v:Value}(h:cq σ (.int k n) v):v=.int k n:=by cases h;rfl
theorem cq.JL{b:Bool}{v:Value}(h:cq σ (.bool b) v):v=.bool b:=by cases h;rfl
theorem cq.Am{s:ByteArray}{v:Value}(h:cq σ (.string s) v):v=.string s:=by cases h;rfl
theorem cq.Et{x:Array Value}{v:Value}(h:cq σ (.agg x) v):∃bR,v=.agg bR/\bL σ x.toList bR.toList:=by cases h;simp_all
theorem cq.akc{x:Array Value}{v:Value}(h:cq σ (.tuple x) v):∃bR,v=.tuple bR/\bL σ x.toList bR.toList:=by cases h;simp_all
theorem cq.GP{id off:Nat}{cM:Option Nat}{v:Value}(h:cq σ (.pointer (some ⟨id,off,cM⟩)) v):cM=none/\∃c o s,v=.pointer (some ⟨c,o+off,none⟩)/\σ id=some (c,o,s):=by cases h;simp_all
theorem cq.bool{b:Bool}:cq σ (.bool b) (.bool b):=bL.bool b .nil
theorem cq.int{k:IntKind}{n:Int}:cq σ (.int k n) (.int k n):=bL.int k n .nil
theorem cq.string{s:ByteArray}:cq σ (.string s) (.string s):=bL.string s .nil
theorem cq.dD{l aA:List Value}(h:bL σ l aA):cq σ (.agg l.toArray) (.agg aA.toArray):=.agg _ _ (by omega) .nil
theorem akd(op:BinOp)(k:IntKind)(a b:Int)(t:TypeId)(p8 p9:Operand){v:Value}(an:Ec op=none)(h:Jn op k a b=some v)(w:World):
  (do eqGuard op t p8 p9 (.int k a) (.int k b);binOp op t (.int k a) (.int k b)).run P w=.ok v w/\cq σ v v:=by
 have hg:(eqGuard op t p8 p9 (.int k a) (.int k b)).run P w=.ok () w:=by cases op<;>rfl
 rw[Sem.run_bind,hg,Result.andThen_ok];cases op<;>simp only[Jn]at h<;>try cases h
 case add=>exact⟨by simp[binOp,Op.intArith,vg],.int⟩
 case sub=>exact⟨by simp[binOp,Op.intArith,vg],.int⟩
 case mul=>exact⟨by simp[binOp,Op.intArith,vg],.int⟩
 case quo=>
  rw[sq]at h;by_cases ak:b=0
  ·simp_all
  ·simp[ak]at h;subst h;exact⟨by simp[binOp,Op.intDiv,ak,vg],.int⟩
 case rem=>
  rw[sq]at h;by_cases ak:b=0
  ·simp_all
  ·simp[ak]at h;subst h;exact⟨by simp[binOp,Op.intDiv,ak],.int⟩
 case and=>exact⟨by simp_all[binOp,Op.intBits,vg,JK],.int⟩
 case or=>exact⟨by simp_all[binOp,Op.intBits,vg,JK],.int⟩
 case xor=>exact⟨by simp_all[binOp,Op.intBits,vg,JK],.int⟩
 case eql=>exact⟨by simp[binOp,Op.intCmp,sq];rfl,.bool⟩
 case neq=>exact⟨by simp[binOp,Op.intCmp,sq];rfl,.bool⟩
 case lss=>exact⟨by simp[binOp,Op.intCmp,lf];grind,.bool⟩
 case leq=>exact⟨by simp[binOp,Op.intCmp,lf],.bool⟩
 case gtr=>exact⟨by simp[binOp,Op.intCmp,lf];grind,.bool⟩
 case geq=>exact⟨by simp[binOp,Op.intCmp,lf],.bool⟩
theorem ake(a b:ByteArray):(⟨(iC a.data.toList b.data.toList).toArray⟩:ByteArray)=a++b:=by rw[jm];rfl
theorem akf(op:BinOp)(a b:ByteArray)(t:TypeId)(p8 p9:Operand){v:Value}(an:Ec op=none)(h:On op a.data.toList b.data.toList=some v)(w:World):
  (do eqGuard op t p8 p9 (.string a) (.string b);binOp op t (.string a) (.string b)).run P w=.ok v w/\cq σ v v:=by
 have hg:(eqGuard op t p8 p9 (.string a) (.string b)).run P w=.ok () w:=by cases op<;>rfl
 rw[Sem.run_bind,hg,Result.andThen_ok];have a7:a.toList=a.data.toList:=ByteArray.toList_eq a;have bt:b.toList=b.data.toList:=ByteArray.toList_eq b;cases op<;>simp only[On]at h<;>try cases h
 case add=>
  split at h
  ·rename_i aD;cases h;rw[ake];rw[hB,hB,mE]at aD;have aD:=of_decide_eq_true aD;have dt:a.data.toList.length=a.size:=by rfl
   have cP:b.data.toList.length=b.size:=by rfl
   have:¬(((a.size+b.size:Nat):Int)>IntKind.i64.max):=by
    have e:IntKind.i64.max=9223372036854775807:=by decide
    omega
   refine⟨?_,.string⟩;show(Op.stringOp .add a b).run P w=_
   simp_all[Op.stringOp]
  ·cases h
 case eql=>exact⟨by simp_all[binOp,Op.stringOp],.bool⟩
 case neq=>exact⟨by simp_all[binOp,Op.stringOp],.bool⟩
 case lss=>exact⟨by simp_all[binOp,Op.stringOp],.bool⟩
 case leq=>exact⟨by simp_all[binOp,Op.stringOp],.bool⟩
 case gtr=>exact⟨by simp_all[binOp,Op.stringOp],.bool⟩
 case geq=>exact⟨by simp_all[binOp,Op.stringOp],.bool⟩
theorem OJ{t:TypeId}{b:Bool}(h:qC P t=some b)(w:World):(isAgg t).run P w=.ok b w:=by
 unfold qC at h;cases bf:P.underlying t with
 | none=>simp_all
 | some d=>rw[bf]at h;unfold isAgg;rw[Sem.run_bind,run_underlying bf w];cases d<;>simp at h<;>subst h<;>rfl
theorem o7{t:TypeId}{n:Nat}(h:hk P t=some n)(w:World):(sizeOf t).run P w=.ok n w:=by
 unfold hk at h;cases an:P.info? t with
 | none=>simp_all
 | some i=>simp_all[sizeOf,typeInfo]
theorem uc{t:TypeId}{z:Value}(h:iL P t=some z)(w:World):(zeroValue t).run P w=.ok z w/\Ea z=true:=by
 unfold iL at h;cases an:P.info? t with
 | none=>simp_all
 | some i=>
  rw[an]at h;cases dU:i.zero with
  | none=>simp_all
  | some OK=>
   simp only[dU]at h;cases aB:Ea OK with
   | false=>simp_all
   | true=>simp_all[zeroValue,typeInfo]
theorem GQ{t:TypeId}{aq:List Value}{bE:Array Value}{off:Nat}{v:Value}(aB:bL σ aq bE.toList)(h:tU P t aq off=some v)(w:World):
  ∃aQ,(part t bE off).run P w=.ok aQ w/\cq σ v aQ:=by
 unfold tU at h;cases bn:qC P t with
 | none=>simp_all
 | some b=>
  cases al:hk P t with
  | none=>simp_all
  | some n=>
   unfold part;rw[Sem.run_bind,OJ bn w,Result.andThen_ok];cases b with
   | true=>
    simp only[bn,al]at h;cases h;refine⟨.agg (bE.extract off (off+n)),?_,?_⟩;simp[o7 al w];rw[ni,n1];refine .agg _ _ ?_ .nil;have:(bE.extract off (off+n)).toList=(bE.toList.drop off).take n:=by simp_all
    rw[this];simpa using(aB.drop off).take n
   | false=>
    simp only[bn,al,wB]at h;obtain⟨aQ,h1,h2⟩:=aB.get off v h
    simp_all
theorem Wc{d D:Nat}{xs bh:List Value}{xK xL:Array Value}(ao:bL σ xs xK.toList)(ba:bL σ bh xL.toList)
  (bg:∀t x y b bR eW,oE P d t x y=some b->cq σ x bR->cq σ y eW->∀w,(Op.equalIn D t bR eW).run P w=.ok b w):
  ∀(bb:List Field) (b:Bool),eqFields P (oE P d) xs bh bb=some b->∀w,(Op.eqFields D xK xL bb).run P w=.ok b w
 | [],b,h,w=>by cases h;rfl
 | f::bb,b,h,w=>by
  unfold eqFields at h;split at h;cases h;rename_i aU;have Eu:f.name≠ "_" := by simpa using aU
  cases bn:tU P f.type xs f.offset with
  | none=>simp[bn]at h
  | some a=>
   cases ak:tU P f.type bh f.offset with
   | none=>simp[bn,ak]at h
   | some c=>
    simp only[bn,ak]at h;obtain⟨cH,s9,va⟩:=GQ ao bn w;obtain⟨bV,c0,vh⟩:=GQ ba ak w;cases bY:oE P d f.type a c with
    | none=>simp[bY]at h
    | some r=>
     have U:=bg _ _ _ _ _ _ bY va vh w;simp only[Op.eqFields,Eu,ne_eq,not_false_eq_true,if_true,Sem.run_bind,s9,c0,U,Result.andThen_ok];cases r with
     | false=>simp[bY]at h;subst h;rfl
     | true=>simp only[bY]at h;simpa using Wc ao ba bg bb b h w
theorem Wd{d D:Nat}{e:TypeId}{n:Nat}(aU:P.cellsOf e=n){xs bh:List Value}{xK xL:Array Value}(ao:bL σ xs xK.toList)(ba:bL σ bh xL.toList)
  (bg:∀t x y b bR eW,oE P d t x y=some b->cq σ x bR->cq σ y eW->∀w,(Op.equalIn D t bR eW).run P w=.ok b w):
  ∀(k i:Nat) (b:Bool),Eb P (oE P d e) e n xs bh k i=some b->∀w,(Op.eqItems D e (P.cellsOf e) xK xL (List.range' i k)).run P w=.ok b w
 | 0,i,b,h,w=>by cases h;rfl
 | k+1,i,b,h,w=>by
  unfold Eb at h;cases bn:tU P e xs (i*n)with
  | none=>simp[bn]at h
  | some a=>
   cases ak:tU P e bh (i*n)with
   | none=>simp[bn,ak]at h
   | some c=>
    simp only[bn,ak]at h;obtain⟨cH,s9,va⟩:=GQ ao bn w;obtain⟨bV,c0,vh⟩:=GQ ba ak w;cases bY:oE P d e a c with
    | none=>simp[bY]at h
    | some r=>
     have U:=bg _ _ _ _ _ _ bY va vh w;simp only[List.range'_succ,Op.eqItems,aU,Sem.run_bind,s9,c0,U,Result.andThen_ok];cases r with
     | false=>simp[bY]at h;subst h;rfl
     | true=>simp only[bY]at h;have:=Wd aU ao ba bg k (i+1) b h w;rw[aU]at this;simpa using this
theorem JM:∀(d:Nat) (t:TypeId) (x y:Value) (b:Bool) (bR eW:Value),oE P d t x y=some b->cq σ x bR->cq σ y eW->∀(D:Nat) (w:World),d<=D->(Op.equalIn D t bR eW).run P w=.ok b w
 | 0,t,x,y,b,bR,eW,h,_,_,D,w,_=>by cases h
 | d+1,t,x,y,b,bR,eW,h,ao,ba,D,w,lF=>by
  obtain⟨D,rfl⟩:∃OL,D=OL+1:=⟨D-1,by omega⟩;unfold oE at h;cases bf:P.underlying t with
  | none=>simp[bf]at h
  | some jn=>
   simp only[bf]at h;split at h
   case h_1 jW=>cases jW;cases h;rw[ao.JL,ba.JL];exact run_equalIn_bool w D t _ _ bf
   case h_2 jW=>
    cases jW;rw[ao.o6,ba.o6];split at h
    ·rename_i ah;cases h;rw[Wb ah,run_equalIn_int w D t _ _ _ _ bf,sq];rfl
    ·cases h
   case h_3 jW=>cases jW;cases h;rw[ao.Am,ba.Am,run_equalIn_string w D t _ _ bf,ByteArray.toList_eq,ByteArray.toList_eq]
   case h_4 jW=>cases jW;cases h;cases ao;cases ba<;>simp[Op.equalIn,run_underlying bf]
   case h_5 jW=>cases jW;cases h;cases ao;cases ba;simp[Op.equalIn,run_underlying bf]
   case h_6 jW=>cases jW;cases h;cases ao;cases ba;simp[Op.equalIn,run_underlying bf]
   case h_7 jW=>cases jW;cases h;cases ao;cases ba;simp[Op.equalIn,run_underlying bf]
   case h_8 jW=>cases jW;cases h;cases ao;cases ba;simp[Op.equalIn,run_underlying bf]
   case h_9 jW=>cases jW;cases h;cases ao;cases ba<;>simp[Op.equalIn,run_underlying bf]
   case h_10 jW=>cases jW;cases h;cases ba;cases ao<;>simp[Op.equalIn,run_underlying bf]
   case h_11 jW=>cases jW;cases h;cases ao;cases ba;simp[Op.equalIn,run_underlying bf]
   case h_12 jW=>cases jW;cases h;cases ao;cases ba<;>simp[Op.equalIn,run_underlying bf]
   case h_13 jW=>cases jW;cases h;cases ao<;>cases ba<;>simp[Op.equalIn,run_underlying bf]
   case h_14 jW=>
    rename_i nB xs bh;cases jW;obtain⟨xK,rfl,OM⟩:=ao.Et;obtain⟨xL,rfl,ON⟩:=ba.Et;split at h
    ·cases h
    ·rename_i ev;have hf:P.fieldsOf t=nB:=by simp[Program.fieldsOf,bf]
     rw[run_equalIn_struct w D t xK xL (by rw[hf];exact bf) (by simpa using ev),hf];exact Wc OM ON (fun t x y b bR eW h1 h2 h3 w=>JM d t x y b bR eW h1 h2 h3 D w (by omega)) _ _ h w
   case h_15 jW=>
    rename_i len e xs bh;cases jW;obtain⟨xK,rfl,OM⟩:=ao.Et;obtain⟨xL,rfl,ON⟩:=ba.Et;cases al:hk P e with
    | none=>simp[al]at h
    | some n=>
     simp only[al]at h;cases an:P.info? e with
     | none=>simp[hk,an]at al
     | some i=>
      have aU:P.cellsOf e=n:=by simp[hk,an]at al;simp[Program.cellsOf,an,al]
      rw[run_equalIn_array w D xK xL bf an,range_eq_range'];exact Wd aU OM ON (fun t x y b bR eW h1 h2 h3 w=>JM d t x y b bR eW h1 h2 h3 D w (by omega)) _ _ _ h w
   case h_16=>cases h
end
end Go.Ab
namespace Go.Ab
open Go
section
variable{P:Program}{σ:c8}
theorem akg(l:Bool)(k e6:IntKind)(a b:Int)(op:BinOp)(kk:Ec op=some l)(t:TypeId)(p8 p9:Operand){v:Value}(h:BS l k a b=some v)(w:World):
  (do eqGuard op t p8 p9 (.int k a) (.int e6 b);binOp op t (.int k a) (.int e6 b)).run P w=.ok v w/\cq σ v v:=by
 unfold BS at h;split at h;cases h;rename_i ak;have bt:∀n:Nat,(2:Int)^n=((2^n:Nat):Int):=fun n=>by simp
 cases op<;>cases kk;simp at h;subst h;refine⟨?_,.int⟩;show(Op.shift .shl k a e6 b).run P w=_
 simp_all[Op.shift,if_neg,vg]
 simp at h;subst h;refine⟨?_,.int⟩;show(Op.shift .shr k a e6 b).run P w=_
 simp_all[Op.shift,if_neg]
theorem We(op:BinOp)(t:TypeId)(p8 p9:Operand)(x y bR eW:Value)(hg:wm P t (wk p8||wk p9) x y=true)(ao:cq σ x bR)(ba:cq σ y eW)(w:World):
  (eqGuard op t p8 p9 bR eW).run P w=.ok () w:=by
 have key:∀(p:Prop) [Decidable p] (m:Sem Unit),m.run P w=.ok () w->(if p then(pure ():Sem Unit)else m).run P w=.ok () w:=fun p _ m hm=>by simp_all
 unfold eqGuard;simp only[Sem.run_ite];cases ao
 case nilIface=>
  cases ba
  case nilIface=>simp only[wm]at hg;cases p8<;>cases p9<;>simp[wk]at hg<;>cases op<;>simp
  all_goals cases op<;>simp
 case agg xs xK _ _=>
  cases ba
  case agg bh xL _ _=>simp_all[wm]
  all_goals cases op<;>simp
 all_goals cases op<;>simp
def OO(bR:Value):Bool:=match bR with|.int _ _=>false|.float _ _=>false|.complex _ _ _=>false|.string _=>false|_=>true
theorem akh(t:TypeId)(bR eW:Value)(aU:OO bR=true):
  binOp .eql t bR eW=(do pure (.bool (<- Op.equal t bR eW)))/\binOp .neq t bR eW=(do pure (.bool (!(<- Op.equal t bR eW)))):=by
 cases bR<;>first|(simp[OO]at aU;done)|(cases eW<;>exact⟨rfl,rfl⟩)
theorem aki(op:BinOp)(t:TypeId)(p8 p9:Operand)(x y bR eW:Value){v:Value}(h:Oo P op t (wk p8||wk p9) x y=some v)(ao:cq σ x bR)(ba:cq σ y eW)
  (aU:OO bR=true) (w:World):
  ∃aQ,(do eqGuard op t p8 p9 bR eW;binOp op t bR eW).run P w=.ok aQ w/\cq σ v aQ:=by
 obtain⟨h1,h2⟩:=akh t bR eW aU;cases op<;>simp only[Oo]at h<;>try cases h
 case eql=>
  split at h
  ·rename_i hg;cases bY:oE P 100 t x y with
   | none=>simp_all
   | some b=>
    simp[bY]at h;subst h;refine⟨.bool b,?_,.bool⟩;have U:=JM 100 t x y b bR eW bY ao ba 10000 w (by omega)
    grind[Sem.run_bind,We,Result.andThen_ok,Op.equal,Op.maxDepth,Sem.run_pure]
  ·cases h
 case neq=>
  split at h
  ·rename_i hg;cases bY:oE P 100 t x y with
   | none=>simp_all
   | some b=>
    simp[bY]at h;subst h;refine⟨.bool (!b),?_,.bool⟩;have U:=JM 100 t x y b bR eW bY ao ba 10000 w (by omega)
    grind[Sem.run_bind,We,Result.andThen_ok,Op.equal,Op.maxDepth,Sem.run_pure]
  ·cases h
theorem akj(op:BinOp)(t:TypeId)(p8 p9:Operand)(x y bR eW:Value){v:Value}(h:(ar P op t (wk p8||wk p9)).f x y=some v)(ao:cq σ x bR)(ba:cq σ y eW)(w:World):
  ∃aQ,(do eqGuard op t p8 p9 bR eW;binOp op t bR eW).run P w=.ok aQ w/\cq σ v aQ:=by
 unfold ar at h;cases al:Ec op with
 | some l=>
  simp only[al]at h;cases x<;>simp only at h<;>try cases h
  rename_i k a;cases y<;>simp only at h<;>try cases h
  rename_i e6 b;rw[ao.o6,ba.o6]
  grind[akg]
 | none=>
  simp only[al]at h;cases x
  case int k a=>
   simp only at h;cases y<;>simp only at h<;>try cases h
   rename_i e6 b;split at h
   ·rename_i ah;rw[ao.o6,ba.o6,<- Wb ah]
    grind[akd]
   ·cases h
  case string a=>
   simp only at h;cases y<;>simp only at h<;>try cases h
   rename_i b;rw[ao.Am,ba.Am]
   grind[akf]
  case float=>cases h
  case complex=>cases h
  all_goals
   refine aki op t p8 p9 _ y bR eW h ao ba ?_ w;cases ao<;>rfl
theorem akk(op:UnOp)(x bR:Value){v:Value}(h:hx op x=some v)(ao:cq σ x bR)(w:World):∃aQ,(Op.unary op bR).run P w=.ok aQ w/\cq σ v aQ:=by
 unfold hx at h;cases x<;>simp only at h<;>try cases h
 case int k n=>
  rw[ao.o6];cases op<;>simp only at h<;>cases h
  ·exact⟨_,by simp[Op.unary,Op.intArith,vg],.int⟩
  ·refine⟨_,?_,.int⟩
   simp_all[Op.unary,Op.intBits,vg,JK]
 case bool b=>rw[ao.JL];cases op<;>simp only at h<;>cases h;exact⟨_,rfl,.bool⟩
def ha(P:Program)(B:Nat)(s:Sem Value)(w:World)(σ:c8)(h:Nat->Option ax)(H:au)(v:Value)(ab:au):Prop:=
 ∃aQ aW τ,s.run P w=.ok aQ aW/\cq τ v aQ/\lV B σ h H.next w τ (iE h H ab) ab.next aW
theorem ha.pure{B:Nat}{s:Sem Value}{w:World}{h:Nat->Option ax}{H:au}{v:Value}(al:ky σ B h w)(U:∃aQ,s.run P w=.ok aQ w/\cq σ v aQ):ha P B s w σ h H v H:=by obtain⟨aQ,h1,h2⟩:=U;exact⟨aQ,w,σ,h1,h2,by grind[Cc,lV.refl]⟩
theorem OP{h:Nat->Option ax}{H:au}{aq:List Value}{w:World}{B:Nat}(al:ky σ B h w)(fp:σ H.next=none)(i:Nat)(b:ax)
  (bf:iE h H ⟨H.t.set H.next (some ⟨aq,true⟩),Nat.succ H.next,H.dS,H.ed⟩ i=some b):(i=H.next/\b=⟨aq,true⟩)\/(i≠H.next/\h i=some b):=by
 have aU:h H.next=none:=by
  cases hh:h H.next with
  | none=>rfl
  | some b=>obtain⟨c,o,s,_,_,_,h1,_⟩:=al.ga _ _ hh;simp_all
 unfold iE at bf;by_cases an:i=H.next;subst an;split at bf
 simp_all
 rcases Tr.Er _ _ _ _ _ bf with⟨_,h2⟩|⟨h1,_⟩
 simp_all
 omega
 simp_all[au.get,Tr.l9]
theorem Wf{B:Nat}{h:Nat->Option ax}{H:au}{w:World}(al:ky σ B h w)(b6:B<=w.heap.size)(fp:σ H.next=none)(aq bE ef:List Value)(t:TypeId)(eC:Nat×Nat)(aB:bL σ aq bE)
  (cW:eC.1<=eC.2/\∀i,i<bE.length+ef.length->(eC.1<=i&&i<eC.2)=false) (k:Nat):
  ∃ τ,τ H.next=some (w.heap.size,0,bE.length+ef.length)/\lV B σ h H.next w τ (iE h H ⟨H.t.set H.next (some ⟨aq,true⟩),Nat.succ H.next,H.dS,H.ed⟩) (H.next+1)
   {w with heap:=w.heap.push (.cells (bE++ef).toArray t eC),drawn:=k}:=
 ⟨_,if_pos rfl,V7 al b6 H.next fp aq bE ef t eC aB cW k _ fun i b bf=>OP al fp i b bf⟩
theorem Wg{B:Nat}{h:Nat->Option ax}{H ab:au}{w:World}{v:Value}(al:ky σ B h w)(b6:B<=w.heap.size)(fp:∀i,H.next<=i->i<ab.next->σ i=none)(aq:List Value)(u:Value)(t:TypeId)(aB:bL σ aq u.cells.toList)
  (aU:yJ aq H=some (v,ab)):ha P B (do pure (.pointer (some (<- newVar t u)))) w σ h H v ab:=by
 simp only[yJ,au.cY]at aU;cases aU;obtain⟨τ,h1,h2⟩:=Wf al b6 (fp H.next (Nat.le_refl _) (lt_succ_self _)) aq u.cells.toList [] t (0,0) aB (by simp) w.drawn;refine⟨.pointer (some ⟨w.heap.size,0,none⟩),_,τ,?_,.ai _ _ _ 0 _ h1 .nil,h2⟩;simp[newVar,newRow]
theorem Wh{τ:c8}{id len size c s:Nat}(h:τ id=some (c,0,s))(al:0<size)(aD:len*size<=s):cq τ (.slice (some ⟨id,0,none⟩) len (2*size+1)) (.slice (some ⟨c,0,none⟩) len len):=
 .o5 id 0 len size c 0 s _ h al (.inr ⟨by simp,by omega⟩) .nil
theorem Ev{τ:c8}{id len size cap c s:Nat}(h:τ id=some (c,0,s))(al:0<size)(aD:len<=cap)(aB:cap*size<=s):cq τ (.slice (some ⟨id,0,none⟩) len (2*size)) (.slice (some ⟨c,0,none⟩) len cap):=
 .oL id 0 len size cap c 0 s _ h al aD (.inl ⟨by simp,by omega⟩) .nil
end
end Go.Ab
namespace Go.Ab
open Go
section
variable{P:Program}{σ:c8}{B:Nat}{h:Nat->Option ax}{H ab:au}{w:World}
def GR(h:Nat->Option ax)(H:au)(id:Nat):Prop:=∀b,H.get id=some b->h id=some b
def vi(h:Nat->Option ax)(H:au)(v:Value):Prop:=∀id,En v=some id->GR h H id
theorem Cj{id off n:Nat}{l:List Value}(al:ky σ B h w)(bn:GR h H id)(U:s0 H id off n=some l){c o s:Nat}(eo:σ id=some (c,o,s)):
  ∃aA,(loadCells ⟨c,o+off,none⟩ n).run P w=.ok aA.toArray w/\bL σ l aA/\l.length=n:=by
 rw[Cb]at U;cases hg:H.get id with
 | none=>simp_all
 | some b=>
  rw[hg]at U;simp only[yI,ni,n1,hB]at U;cases bY:Nat.beq ((b.cells.drop off).take n).length n with
  | false=>simp_all
  | true=>
   rw[bY]at U;cases U;have aD:=eq_of_beq_eq_true bY;obtain⟨bV,dK,cl,dD,de,eC,a7,bt,ei,h6,hR,_⟩:=al.ga id b (bn b hg);rw[eo]at a7;cases a7;have yR:off+n<=b.cells.length\/n=0:=by grind
   refine⟨(dD.toList.drop (o+off)).take n,?_,?_,aD⟩;rcases yR with yR|rfl
   grind[aj3]
   rfl;rcases yR with yR|rfl
   have:=(hR.drop off).take n
   grind[drop_take,drop_drop]
   simp;exact .nil
theorem akl{id off:Nat}{v:Value}(al:ky σ B h w)(bn:GR h H id)(U:B1 H id off=some v){c o s:Nat}(eo:σ id=some (c,o,s)):
  ∃aQ,(load ⟨c,o+off,none⟩).run P w=.ok aQ w/\cq σ v aQ:=by
 unfold B1 at U;cases hg:H.get id with
 | none=>simp_all
 | some b=>
  rw[hg]at U;simp only[wB]at U;obtain⟨bV,dK,cl,dD,de,eC,a7,bt,ei,h6,hR,_⟩:=al.ga id b (bn b hg);rw[eo]at a7;cases a7;obtain⟨aQ,h1,h2⟩:=hR.get off v U
  simp_all[List.getElem?_take,World.cell?]
theorem Wi{l aA:List Value}(hv:bL σ l aA)(h1:kh eL l=true):∀v∈aA,v.oneCell'=true:=by
 rw[kH]at h1;induction l generalizing aA with
 | nil=>rw[hv.rE];simp
 | cons x r bg=>
  obtain⟨bR,dY,rfl,ao,U⟩:=hv.nF;rw[all_cons,Bool.and_eq_true]at h1;intro v hm;rcases mem_cons.1 hm with rfl|hm
  cases ao<;>first|rfl|(exact absurd h1.1 (by simp[eL]))
  grind
theorem JN{id off:Nat}{vs nG:List Value}(al:ky σ B h w)(bn:GR h H id)(U:wi H id off vs=some ab)(hv:bL σ vs nG){c o s:Nat}(eo:σ id=some (c,o,s))(n:Nat):
  ∃aW,(storeCells ⟨c,o+off,none⟩ nG).run P w=.ok () aW/\lV B σ h n w σ (iE h H ab) n aW/\ab.next=H.next:=by
 rw[JF]at U;cases hg:H.get id with
 | none=>simp_all
 | some b=>
  rw[hg]at U;simp only at U;split at U;rename_i aB;cases U;simp only[Bool.and_eq_true,au.o2,hB,mE,decide_eq_true_eq]at aB;obtain⟨⟨aM,_⟩,hlen,h1⟩:=aB;obtain⟨bV,dK,cl,dD,de,eC,a7,bt,ei,h6,hR,ih⟩:=al.ga id b (bn b hg);rw[eo]at a7;cases a7;have V8:=hv.length;have ev:=OG (P:=P) c (o+off) de eC nG 0 dD w bt (by omega) (Wi hv h1) (fun j bm=>(ih aM).2 j (by omega));refine⟨_,ev,?_,rfl⟩;refine aj7 al id off b (bn b hg) aM vs nG hv hlen c o s dD de eC eo bt _ ?_;intro i di bf;simp only[jm,ni,n1,hB]at bf;unfold iE at bf;by_cases an:i=id;subst an;left;refine⟨rfl,?_⟩;have yS:(au.set H i (some ⟨b.cells.take off++(vs++b.cells.drop (off+vs.length)),b.wr⟩)).get i=some ⟨b.cells.take off++(vs++b.cells.drop (off+vs.length)),b.wr⟩:=Tr.VZ _ _ _ b hg;rw[yS]at bf;split at bf;rename_i he;rw[hg]at he;rw[bn b hg]at bf
  simp_all
  simp_all
  right;refine⟨an,?_⟩;have yS:(au.set H id (some ⟨b.cells.take off++(vs++b.cells.drop (off+vs.length)),b.wr⟩)).get i=H.get i:=Tr.l9 _ _ _ _ an
  simp_all
  grind
theorem Wj{t:TypeId}{a cH v:Value}(al:ky σ B h w)(bn:vi h H a)(hv:cq σ a cH)(U:(oI P t).f a H=some (v,ab)):
  ab=H/\∃aQ,(Instr.loadAt t cH).run P w=.ok aQ w/\cq σ v aQ:=by
 unfold oI at U;cases bY:qC P t with
 | none=>simp_all
 | some b=>
  cases dU:hk P t with
  | none=>simp_all
  | some n=>
   have key:∀id off cM,a=.pointer (some ⟨id,off,cM⟩)->cM=none/\∃c o s,cH=.pointer (some ⟨c,o+off,none⟩)/\σ id=some (c,o,s):=by intro id off cM e;subst e;exact hv.GP
   cases b with
   | true=>
    simp only[bY,dU,bZ]at U;cases a<;>simp only at U<;>try cases U
    rename_i a0;cases a0 with
    | none=>cases U
    | some a0=>
     obtain⟨id,off,cM⟩:=a0;obtain⟨rfl,c,o,s,rfl,eo⟩:=key id off cM rfl;simp only at U;cases aD:s0 H id off n with
     | none=>simp_all
     | some l=>
      rw[aD]at U;cases U;obtain⟨aA,h1,h2,_⟩:=Cj (P:=P) al (bn id rfl) aD eo
      simp_all[cq.dD,Instr.loadAt,Instr.sureAddr,loadVar,OJ,o7]
   | false=>
    simp only[bY,dU,aw]at U;cases a<;>simp only at U<;>try cases U
    rename_i a0;cases a0 with
    | none=>cases U
    | some a0=>
     obtain⟨id,off,cM⟩:=a0;obtain⟨rfl,c,o,s,rfl,eo⟩:=key id off cM rfl;simp only at U;cases aD:B1 H id off with
     | none=>rw[aD]at U;cases U
     | some u=>
      rw[aD]at U;cases U;obtain⟨aQ,h1,h2⟩:=akl (P:=P) al (bn id rfl) aD eo
      simp_all[Instr.loadAt,Instr.sureAddr,loadVar,OJ]
theorem akm{t:TypeId}{n:Nat}(dU:hk P t=some n){a cH x bR v:Value}(al:ky σ B h w)(bn:vi h H a)(hv:cq σ a cH)(ao:cq σ x bR)(U:bx n a x H=some (v,ab)):
  v=undef/\ab.next=H.next/\∃aW,(Instr.storeAt t cH bR).run P w=.ok () aW/\lV B σ h H.next w σ (iE h H ab) ab.next aW:=by
 unfold bx at U;cases a<;>simp only at U<;>try cases U
 rename_i a0;cases a0 with
 | none=>cases U
 | some a0=>
  obtain⟨id,off,cM⟩:=a0;obtain⟨rfl,c,o,s,rfl,eo⟩:=hv.GP;simp only at U;split at U;rename_i bY;cases aM:wi H id off (dr x)with
  | none=>simp_all
  | some bB=>
   rw[aM]at U;cases U;obtain⟨aW,h1,h2,h3⟩:=JN (P:=P) al (bn id rfl) aM ao.cells eo H.next;refine⟨rfl,h3,aW,?_,by simp_all⟩;have hlen:bR.cells.size=n:=by
    have:=ao.cells.length
    simp_all[hB]
   simp_all[Instr.storeAt,Instr.sureAddr,storeVar,o7]
  grind
theorem JO(gj:Nat->Option (Nat×Nat)):∀(ie:List (Nat×Value)) (qa:List (Nat×Value)) (cells:List Value) (xM:Array Value) (l:List Value),
  bL σ cells xM.toList->ie.map (·.1)=qa.map (·.1)->bL σ (ie.map (·.2)) (qa.map (·.2))->wj gj cells ie=some l->
  ∃aA,Instr.fill gj xM qa=some aA/\bL σ l aA.toList
 | [],qa,cells,xM,l,aB,h1,_,hf=>by
  cases qa with
  | nil=>cases hf;exact⟨xM,rfl,aB⟩
  | cons _ _=>cases h1
 |(i,v)::ef,qa,cells,xM,l,aB,h1,h2,hf=>by
  cases qa with
  | nil=>cases h1
  | cons p akn=>
   obtain⟨vd,aQ⟩:=p;simp only[map_cons,List.cons.injEq]at h1;obtain⟨rfl,h1⟩:=h1;simp only[map_cons]at h2;obtain⟨Wk,aEU,e,hv,U⟩:=h2.nF;cases e;unfold wj at hf;unfold Instr.fill;cases bJ:gj i with
   | none=>simp_all
   | some os=>
    obtain⟨off,size⟩:=os;rw[bJ]at hf;simp only at hf⊢;split at hf;rename_i bY;simp only[hB,mE,Bool.and_eq_true,decide_eq_true_eq]at bY;have a7:=eq_of_beq_eq_true bY.1;have sr:=hv.cells;have bt:=sr.length;have ei:aQ.cells.toList.length=aQ.cells.size:=Array.length_toList;have h6:=aB.length;have hR:xM.toList.length=xM.size:=Array.length_toList;rw[if_neg (by grind)];refine JO gj ef akn _ _ l ?_ h1 U hf;rw[jm,jm,ni,n1,hB];have key:(aQ.cells.zipIdx.foldl (fun aq (x:Value×Nat)=>aq.setIfInBounds (off+x.2) x.1) xM).toList=xM.toList.take off++(aQ.cells.toList++xM.toList.drop (off+aQ.cells.toList.length)):=by
     rw[<- Array.foldl_toList,Array.toList_zipIdx];have JP:∀(vs:List Value) (k:Nat) (aq:Array Value),off+k+vs.length<=aq.size->
       ((vs.zipIdx k).foldl (fun aq (x:Value×Nat)=>aq.setIfInBounds (off+x.2) x.1) aq).toList=aq.toList.take (off+k)++vs++aq.toList.drop (off+k+vs.length):=by
      intro vs;induction vs with
      | nil=>simp_all
      | cons x r bg=>intro k aq ah;simp only[zipIdx_cons,foldl_cons];simp only[length_cons]at ah;have an:=bg (k+1) (aq.setIfInBounds (off+k) x) (by grind);rw[show off+(k+1)=off+k+1 by omega]at an;rw[an,Array.toList_setIfInBounds];have e:=list_seg_step aq.toList (off+k) x r (by omega);omega
     simp_all
    rw[key,<- bt];exact(aB.take off).append (sr.append (aB.drop (off+(dr v).length)))
    grind
theorem ako(l:List (Nat×Operand))(T:List Value):(u7 l T).map (·.1)=l.map (·.1)/\(u7 l T).map (·.2)=l.map fun p=>(ek p.2).g T:=by
 induction l with
 | nil=>exact⟨rfl,rfl⟩
 | cons p r bg=>obtain⟨i,o⟩:=p;exact⟨by show i::_=_;grind,by show(ek o).g T::_=_;grind⟩
theorem akp(nB:Array Field){f:Field->Option (Nat×Nat)}(hf:∀x∈nB.toList,∃n,f x=some (x.offset,n)/\∀w,(sizeOf x.type).run P w=.ok n w)(w:World):
  ∃JQ:Array (Nat×Nat),(nB.mapM fun(x:Field)=>(do pure (x.offset,<- sizeOf x.type):Sem (Nat×Nat))).run P w=.ok JQ w/\∀i:Nat,JQ[i]?=(nB.toList[i]?).bind f:=by
 have JP:∀(l:List Field),(∀x∈l,∃n,f x=some (x.offset,n)/\∀w,(sizeOf x.type).run P w=.ok n w)->
   ∃bw:List (Nat×Nat),(l.mapM fun(x:Field)=>(do pure (x.offset,<- sizeOf x.type):Sem (Nat×Nat))).run P w=.ok bw w/\∀i:Nat,bw[i]?=(l[i]?).bind f:=by
  intro l;induction l with
  | nil=>simp_all
  | cons x r bg=>
   intro ao;obtain⟨n,h1,h2⟩:=ao x (by simp);obtain⟨bw,h3,aG⟩:=bg fun y ba=>ao y (by simp[ba])
   refine⟨(x.offset,n)::bw,?_,?_⟩
   simp_all
   grind
 obtain⟨bw,h1,h2⟩:=JP nB.toList hf
 simp_all[Array.mapM_eq_mapM_toList]
theorem JR{z:Value}:z.cells.toList=dr z:=by cases z<;>rfl
theorem akq{t:TypeId}{ie qa:List (Nat×Value)}{v:Value}(U:(dq P t).f ie=some v)(h1:ie.map (·.1)=qa.map (·.1))(h2:bL σ (ie.map (·.2)) (qa.map (·.2)))(w:World):
  ∃aQ,(Instr.build t qa.toArray).run P w=.ok aQ w/\cq σ v aQ:=by
 unfold dq at U;cases dU:iL P t with
 | none=>simp_all
 | some z=>
  obtain⟨mF,o8⟩:=uc dU w;have df:bL σ (dr z) z.cells.toList:=(wC o8).cells;rw[dU]at U;simp only at U;cases bf:P.underlying t with
  | none=>simp_all
  | some jn=>
   rw[bf]at U;cases jn<;>simp only at U<;>try cases U
   case struct nB=>
    split at U
    ·rename_i hall;rw[kH,all_eq_true]at hall;simp only at U
     let f:Field->Option (Nat×Nat):=fun x=>(hk P x.type).map fun n=>(x.offset,n)
     obtain⟨JQ,dx,bp⟩:=akp (P:=P) nB (f:=f) (fun x ao=>by
      have:=hall x ao;cases al:hk P x.type with
      | none=>simp_all
      | some n=>exact⟨n,by grind,fun w=>o7 al w⟩) w
     have qb:(fun i:Nat=>JQ[i]?)=Jm P nB.toList:=by grind[Jm,wB]
     cases hf:wj (Jm P nB.toList) (dr z) ie with
     | none=>rw[hf]at U;cases U
     | some l=>
      rw[hf]at U;cases U;obtain⟨aA,gY,gZ⟩:=JO _ ie qa _ _ l df h1 h2 hf;rw[<- qb]at gY;refine⟨.agg aA,?_,.agg _ _ (by omega) .nil⟩
      simp_all[Instr.build,run_underlying]
    grind
   case array n e=>
    cases al:hk P e with
    | none=>simp_all
    | some size=>
     rw[al]at U;simp only at U;cases hf:wj (fun i=>some (i*size,size)) (dr z) ie with
     | none=>rw[hf]at U;cases U
     | some l=>
      rw[hf]at U;cases U;obtain⟨aA,gY,gZ⟩:=JO _ ie qa _ _ l df h1 h2 hf;refine⟨.agg aA,?_,.agg _ _ (by omega) .nil⟩
      simp_all[Instr.build,run_underlying,o7]
theorem JS(n:Nat)(z:Array Value):((Array.range (n*z.size)).map fun i=>z[i%z.size]!).toList=gv n z.toList:=by
 have key:∀(n:Nat),(List.range (n*z.size)).map (fun i=>z[i%z.size]!)=gv n z.toList:=by
  intro n;induction n with
  | zero=>simp[gv]
  | succ n bg=>
   rw[show gv (n+1) z.toList=z.toList++gv n z.toList by show iC _ _=_;rw[jm]];rw[succ_mul,Nat.add_comm,range_add,map_append,map_map]
   congr 1
   apply ext_getElem?
   grind[mod_eq_of_lt]
   simp_all[map_congr_left]
 simp_all
theorem bL.gv(n:Nat){l aA:List Value}(aD:bL σ l aA):bL σ (gv n l) (gv n aA):=by
 induction n with
 | zero=>exact .nil
 | succ n bg=>
  have e:∀m:List Value,Ab.gv (n+1) m=m++Ab.gv n m:=fun m=>by show iC _ _=_;rw[jm]
  rw[e,e];exact aD.append bg
theorem JT(n:Nat)(l:List Value):(gv n l).length=n*l.length:=by
 induction n with
 | zero=>simp[gv]
 | succ n bg=>grind[gv,jm]
end
end Go.Ab
namespace Go.Ab
open Go
section
variable{P:Program}{σ:c8}{B:Nat}{h:Nat->Option ax}{H ab:au}{w:World}
theorem akr{t:TypeId}{n:Nat}(h:(P.info? t).map (·.bytes)=some n):∃i,P.info? t=some i/\i.bytes=n:=by simp_all
theorem Ew{v:Value}{aq bE ef:List Value}{len c:Nat}(al:ky σ B h w)(b6:B<=w.heap.size)(fp:∀i,H.next<=i->i<ab.next->σ i=none)(aB:bL σ aq bE)(t:TypeId)(eC:Nat×Nat)
  (cW:eC.1<=eC.2/\∀i,i<bE.length+ef.length->(eC.1<=i&&i<eC.2)=false) (k:Nat) (aU:mB aq len c H=some (v,ab)):
  ∃ τ id,v=.slice (some ⟨id,0,none⟩) len c/\τ id=some (w.heap.size,0,bE.length+ef.length)/\
   lV B σ h H.next w τ (iE h H ab) ab.next {w with heap:=w.heap.push (.cells (bE++ef).toArray t eC),drawn:=k}:=by
 simp only[mB,au.cY]at aU;cases aU
 simp_all[Wf]
theorem aks{t:TypeId}{l aA c bV v:Value}(al:ky σ B h w)(b6:B<=w.heap.size)(fp:∀i,H.next<=i->i<ab.next->σ i=none)(aD:cq σ l aA)(aB:cq σ c bV)
  (U:(rD P t).f l c H=some (v,ab)):ha P B (Instr.makeSlice t aA bV) w σ h H v ab:=by
 unfold rD at U;split at U
 case h_2=>cases U
 case h_1 e bf=>
 split at U
 case h_2=>cases U
 case h_1 size z bytes jJ hl vj=>
 split at U
 case isFalse=>cases U
 case isTrue bY=>
 simp only[Bool.and_eq_true,qI,hB,decide_eq_true_eq]at bY;obtain⟨GS,ta⟩:=bY;have ta:=eq_of_beq_eq_true ta;unfold u6 at U;cases l<;>simp only at U<;>try cases U
 rename_i k n;cases c<;>simp only at U<;>try cases U
 rename_i gd m;rw[aD.o6,aB.o6];split at U
 case isFalse=>cases U
 case isTrue cU=>
 split at U
 case isFalse=>cases U
 case isTrue cR=>
 split at U
 case isFalse=>cases U
 case isTrue a3=>
 simp only[Bool.and_eq_true,mE,decide_eq_true_eq]at a3;obtain⟨a3,a4⟩:=a3;obtain⟨vk,an,vl⟩:=akr vj;have fc:vk.size=size:=by simp_all[hk]
 obtain⟨mF,o8⟩:=uc hl w;have df:bL σ (dr z) z.cells.toList:=(wC o8).cells;have qJ:z.cells.size=size:=by grind[JR]
 have akt:bL σ (gv n.toNat (dr z)) (gv n.toNat z.cells.toList):=df.gv _;have ss:IntKind.i64.wrap n=n:=by rw[IntKind.wrap_i64];omega
 have wF:IntKind.i64.wrap m=m:=by rw[IntKind.wrap_i64];omega
 have Wl:n.toNat<=m.toNat:=by omega
 obtain⟨d,aO⟩:∃d,m.toNat=n.toNat+d:=⟨m.toNat-n.toNat,by omega⟩;have aEV:gv m.toNat z.cells.toList=gv n.toNat z.cells.toList++gv d z.cells.toList:=by
  rw[aO];generalize n.toNat=a;induction a with
  | zero=>simp[gv]
  | succ a bg=>grind[gv,jm]
 obtain⟨τ,id,rfl,ma,hg⟩:=Ew (ef:=gv d z.cells.toList) al b6 fp akt e (0,0) (by simp) w.drawn U;have hlen:(gv n.toNat z.cells.toList).length+(gv d z.cells.toList).length=m.toNat*size:=by simp_all[JT,Nat.add_mul]
 rw[hlen]at ma;refine⟨.slice (some ⟨w.heap.size,0,none⟩) n.toNat m.toNat,_,τ,?_,?_,hg⟩
 ·have ud:((bytes:Int)*m>2^48)=False:=by grind
  have Wm:((decide (m<0)||decide ((bytes:Int)*m>2^48)||decide (n<0)||decide (n>m))=true)=False:=by grind
  simp only[Instr.makeSlice,Sem.run_bind,run_underlying bf,Result.andThen_ok,asInt,asIntOf,Sem.run_pure,typeInfo,run_program,an,ss,wF,vl];rw[Sem.run_ite];rw[if_neg (fun hh=>by grind)];simp only[Sem.run_bind,run_askRoom,Result.andThen_ok,o7 jJ];by_cases aJ:m.toNat*size=0
  ·simp_all[Array.eq_empty_of_size_eq_zero,newRow]
  ·rw[if_neg aJ];simp only[Sem.run_bind,mF,Result.andThen_ok,Sem.run_pure,newRow,run_newObj]
   grind[JS,Array.range]
 ·rw[sq];by_cases hnm':n=m
  ·subst hnm';simp only[decide_true,cond];exact Wh ma GS (Nat.le_refl _)
  simp_all[Ev]
theorem Wn(gj:Nat->Option (Nat×Nat)):∀(ie:List (Nat×Value)) (cells l:List Value),wj gj cells ie=some l->l.length=cells.length
 | [],cells,l,hf=>by cases hf;rfl
 |(i,v)::ef,cells,l,hf=>by
  unfold wj at hf;cases bJ:gj i with
  | none=>simp_all
  | some os=>
   obtain⟨off,size⟩:=os;rw[bJ]at hf;simp only at hf;split at hf;rename_i bY;simp only[hB,mE,Bool.and_eq_true,decide_eq_true_eq]at bY;have:=Wn gj ef _ l hf
   grind[jm,ni,n1,hB]
   grind
theorem aku{t:TypeId}{len:Nat}{ie qa:List (Nat×Value)}{v:Value}(al:ky σ B h w)(b6:B<=w.heap.size)(fp:∀i,H.next<=i->i<ab.next->σ i=none)
  (U:(eV P t len).f ie H=some (v,ab)) (h1:ie.map (·.1)=qa.map (·.1)) (h2:bL σ (ie.map (·.2)) (qa.map (·.2))):
  ha P B (Instr.buildSlice t len qa.toArray) w σ h H v ab:=by
 unfold eV at U;split at U
 case h_2=>cases U
 case h_1 e bf=>
 split at U
 case h_2=>cases U
 case h_1 size jJ=>
 split at U
 case h_2=>cases U
 case h_1 z hl=>
 split at U
 case h_2=>cases U
 case h_1 bY=>
 simp only[Bool.and_eq_true,qI,mE,hB,decide_eq_true_eq]at bY;obtain⟨Wo,GS,ta⟩:=bY;have ta:=eq_of_beq_eq_true ta;obtain⟨mF,o8⟩:=uc hl w;have df:bL σ (dr z) z.cells.toList:=(wC o8).cells;have qJ:z.cells.size=size:=by grind[JR]
 simp only[Jo]at U;cases hf:wj (fun i=>some (i*size,size)) (gv len (dr z)) ie with
 | none=>simp_all
 | some aq=>
  rw[hf]at U;simp only at U;have he:=JS len z.cells;rw[qJ]at he;obtain⟨aA,gY,gZ⟩:=JO _ ie qa (gv len (dr z)) ((Array.range (len*size)).map fun i=>z.cells[i%size]!) aq (by rw[he];exact df.gv len) h1 h2 hf;obtain⟨τ,id,rfl,ma,hg⟩:=Ew (ef:=[]) al b6 fp gZ e (0,0) (by simp) w.drawn U;refine⟨.slice (some ⟨w.heap.size,0,none⟩) len len,_,τ,?_,Wh ma GS (by rw[<- gZ.length,Wn _ _ _ _ hf,JT,ta];simp),hg⟩;simp only[Instr.buildSlice,Sem.run_bind,run_underlying bf,Result.andThen_ok,o7 jJ];rw[Sem.run_ite,if_neg (by omega)];by_cases aJ:len*size=0
  ·simp_all[Array.eq_empty_of_size_eq_zero,newRow]
  simp_all[newRow]
end
end Go.Ab
namespace Go.Ab
open Go
section
variable{P:Program}{σ:c8}{B:Nat}{h:Nat->Option ax}{H:au}{w:World}
theorem akv{n:Nat}(al:ky σ B h w)(id:Nat)(b bz:ax)(ak:h id=some b)(aM:b.wr=true)(c o s:Nat)(dD s7:Array Value)(de:TypeId)(eC:Nat×Nat)(h1:σ id=some (c,o,s))
  (h2:w.heap[c]?=some (.cells dD de eC)) (fc:s7.size=dD.size) (An:o+bz.cells.length<=s) (hv:bL σ bz.cells ((s7.toList.drop o).take bz.cells.length))
  (aT:Nat->Option ax) (aD:∀i di,aT i=some di->(i=id/\di=bz)\/(i≠id/\h i=some di)):
  lV B σ h n w σ aT n (w.setRow c s7):=by
 obtain⟨bV,dK,cl,aEW,V9,JG,a7,bt,ei,h6,hR,ih⟩:=al.ga id b ak;rw[h1]at a7;cases a7;rw[h2]at bt;cases bt;have eU:∀j gI,j≠id->h j=some gI->∀bV dK cl,σ j=some (bV,dK,cl)->bV≠c:=fun j gI dC bm bV dK cl gX e=>al.lU id j b gI (Ne.symm dC) ak bm aM c o s bV dK cl h1 gX e.symm
 refine⟨⟨?_,?_,?_⟩,Nat.le_refl _,fun _ _=>rfl,fun _ _ h=>h,rfl,rfl,rfl,by simp,?_,?_⟩;intro i di kj;rcases aD i di kj with⟨rfl,rfl⟩|⟨dC,qH⟩
 exact⟨c,o,s,s7,de,eC,h1,setRow_heap w c dD _ de eC h2,fc.trans ei,An,hv,fun _=>ih aM⟩;obtain⟨cr,dL,cP,Cg,Ch,yQ,cg,cd,g3,g4,g5,lh⟩:=al.ga i di qH;refine⟨cr,dL,cP,Cg,Ch,yQ,cg,?_,g3,g4,g5,lh⟩
 grind[setRow_other]
 intro i di kj wE;rcases aD i di kj with⟨rfl,rfl⟩|⟨dC,qH⟩
 exact al.own i b ak aM;exact al.own i di qH wE;intro i j iU gI dC an bm Ci dg b3 dt cr dL cP cg cd;rcases aD i iU an with⟨xJ,rfl⟩|⟨wD,fu⟩
 grind
 rcases aD j gI bm with⟨Ce,rfl⟩|⟨Aj,pK⟩
 grind
 exact al.lU i j iU gI dC fu pK Ci dg b3 dt cr dL cP cg cd;intro k ah GO;refine setRow_other w c k _ ?_;intro e;subst e;exact GO ⟨id,b,o,s,ak,aM,h1⟩;rintro k ⟨i,di,dK,cl,kj,wE,gX⟩ _;rcases aD i di kj with⟨rfl,rfl⟩|⟨dC,qH⟩
 exact⟨i,b,dK,cl,ak,aM,gX⟩;exact⟨i,di,dK,cl,qH,wE,gX⟩
theorem akw(al:ky σ B h w)(id k off:Nat)(b:ax)(ak:h id=some b)(aM:b.wr=true)(c o s:Nat)(h1:σ id=some (c,o,s))(ah:σ k=none)(JU:off<=b.cells.length)
  (aT:Nat->Option ax) (aD:∀i di,aT i=some di->(i=k/\di=⟨b.cells.drop off,true⟩)\/(i≠k/\i≠id/\h i=some di)):
  lV B σ h k w (fun i=>if i=k then some (c,o+off,s)else σ i) aT (k+1) w:=by
 let τ:c8:=fun i=>if i=k then some (c,o+off,s)else σ i
 have Cd:∀i x,σ i=some x->τ i=some x:=fun i x ao=>by grind
 have JV:τ k=some (c,o+off,s):=if_pos rfl;have ma:∀i,i≠k->τ i=σ i:=fun i dC=>if_neg dC
 obtain⟨bV,dK,cl,dD,de,eC,a7,bt,ei,h6,hR,ih⟩:=al.ga id b ak;rw[h1]at a7;cases a7;refine⟨⟨?_,?_,?_⟩,by omega,fun i an=>if_neg (by omega),Cd,rfl,rfl,rfl,Nat.le_refl _,fun _ _ _=>rfl,?_⟩;intro i di kj;rcases aD i di kj with⟨rfl,rfl⟩|⟨dC,_,qH⟩
 refine⟨c,o+off,s,dD,de,eC,JV,bt,ei,by grind,?_,fun _=>ih aM⟩;have:=(hR.drop off).mono Cd
 grind[drop_take,drop_drop]
 obtain⟨cr,dL,cP,Cg,Ch,yQ,cg,cd,g3,g4,g5,lh⟩:=al.ga i di qH;exact⟨cr,dL,cP,Cg,Ch,yQ,(ma i dC).trans cg,cd,g3,g4,g5.mono Cd,lh⟩;intro i di kj wE;rcases aD i di kj with⟨rfl,rfl⟩|⟨dC,_,qH⟩
 obtain⟨cr,dL,cP,cg,cd⟩:=al.own id b ak aM
 simp_all
 obtain⟨cr,dL,cP,cg,cd⟩:=al.own i di qH wE
 simp_all
 intro i j iU gI dC an bm Ci dg b3 dt cr dL cP cg cd;have cg:τ i=some (dg,b3,dt):=cg;have cd:τ j=some (cr,dL,cP):=cd;rcases aD i iU an with⟨xJ,rfl⟩|⟨wD,akx,fu⟩
 rcases aD j gI bm with⟨Ce,rfl⟩|⟨Aj,Wp,pK⟩
 omega;rw[xJ,JV]at cg;cases cg;rw[ma j Aj]at cd;exact al.lU id j b gI (Ne.symm Wp) ak pK aM _ _ _ _ _ _ h1 cd;rw[ma i wD]at cg;rcases aD j gI bm with⟨Ce,rfl⟩|⟨Aj,Wp,pK⟩
 rw[Ce,JV]at cd;cases cd;intro e;exact al.lU id i b iU (Ne.symm akx) ak fu aM _ _ _ _ _ _ h1 cg e.symm;rw[ma j Aj]at cd;exact al.lU i j iU gI dC fu pK Ci dg b3 dt cr dL cP cg cd;rintro n5 ⟨i,di,dK,cl,kj,wE,gX⟩ _;have gX:τ i=some (n5,dK,cl):=gX;rcases aD i di kj with⟨xJ,rfl⟩|⟨dC,_,qH⟩
 rw[xJ,JV]at gX;cases gX;exact⟨id,b,o,s,ak,aM,h1⟩;exact⟨i,di,dK,cl,qH,wE,(ma i dC).symm.trans gX⟩
theorem JW{x bR:Value}{n:Nat}(ao:cq σ x bR)(U:nC x=some n):(Builtin.lenOf bR).run P w=.ok n w:=by
 unfold nC at U;cases ao<;>simp only at U<;>cases U
 ·rename_i s _;show Result.ok s.size w=_
  simp_all[hB]
 all_goals rfl
theorem JX{size n m:Nat}{x bR:Value}{l:List Value}(al:ky σ B h w)(bn:vi h H x)(ao:cq σ x bR)(hm:nC x=some m)(aU:n<=m)(U:tX H size n x=some l):
  ∃aA,(Builtin.firstCells size n bR).run P w=.ok aA.toArray w/\bL σ l aA/\l.length=n*size:=by
 unfold tX at U;cases ao<;>simp only at U<;>try cases U
 case string s _=>
  split at U
  ·rename_i h1;cases U;have h1:=eq_of_beq_eq_true h1;subst h1;have OQ:s.data.toList.length=m:=by grind[nC,hB]
   refine⟨(s.data.toList.take n).map xD,?_,by rw[ni];exact bL.VX .u8 (fun b:UInt8=>((b.toNat:Nat):Int)) _,?_⟩
   ·show Result.ok ((s.extract 0 n).data.map fun b=>Value.int .u8 b.toNat) w=_
    congr 1
    apply Array.ext';simp;rfl
   simp_all[ni]
  grind
 case lg _=>
  have:n=0:=by grind[nC]
  subst this;exact⟨[],rfl,.nil,by simp⟩
 case o5 id off len qc c o s a eo bJ j6 _=>
  split at U
  ·simp_all[Builtin.firstCells,loadCells,loadCellsFrom]
  ·rename_i aJ;have aJ:n≠0:=fun e=>by simp_all
   have j6:a=⟨c,o+off,none⟩:=(j6.resolve_left (by grind[nC])).1;subst j6;obtain⟨aA,h1,h2,h3⟩:=Cj (P:=P) al (bn id rfl) U eo;exact⟨aA,h1,h2,h3⟩
 case oL id off len qc cap c o s a eo bJ j7 j6 _=>
  split at U
  ·simp_all[Builtin.firstCells,loadCells,loadCellsFrom]
  ·rename_i aJ;have aJ:n≠0:=fun e=>by simp_all
   have j6:a=⟨c,o+off,none⟩:=by grind[nC]
   subst j6;obtain⟨aA,h1,h2,h3⟩:=Cj (P:=P) al (bn id rfl) U eo;exact⟨aA,h1,h2,h3⟩
end
end Go.Ab
namespace Go.Ab
open Go
section
variable{P:Program}{σ:c8}{B:Nat}{h:Nat->Option ax}{H ab:au}{w:World}
theorem OR(z:Array Value)(n:Nat):(Builtin.zeroCells z n).toList.length=n*z.size:=by simp[Builtin.zeroCells]
theorem OS{k0 k1 de e:TypeId}(bf:P.underlying k0=some (.slice e))(ao:BY P k1=true){i:TypeInfo}(an:P.info? e=some i){z:Value}(dU:iL P e=some z)
  (qJ:z.cells.size=i.size) (kI:Option Addr) (len cap n:Nat) (x:Value) (old cY:List Value) (hlen:(Builtin.lenOf x).run P w=.ok n w) (Ao:cap<len+n) (vn:yK (len+n) i.bytes=true)
  (n2:(Builtin.firstCells i.size len (.slice kI len cap)).run P {w with drawn:=w.drawn+1}=.ok old.toArray {w with drawn:=w.drawn+1}) (Cf:(Builtin.firstCells i.size n x).run P {w with drawn:=w.drawn+1}=.ok cY.toArray {w with drawn:=w.drawn+1}):
  ∃(ef:List Value) (fQ:Nat),len+n<=fQ/\ef.length=(fQ-(len+n))*i.size/\(Builtin.append_ #[k0,k1] de #[.slice kI len cap,x]).run P w=
   .ok (.slice (some ⟨w.heap.size,0,none⟩) (len+n) fQ) {w with heap:=w.heap.push (.cells (old++cY++ef).toArray e (0,0)),drawn:=w.drawn+1}:=by
 obtain⟨mF,_⟩:=uc (P:=P) dU {w with drawn:=w.drawn+1};simp only[yK,Bool.and_eq_true,mE,decide_eq_true_eq]at vn;obtain⟨r1,r2⟩:=vn
 let fQ:=(len+n)+(w.tape w.drawn (.appendCap (len+n) cap e))%(2^63-(len+n))
 refine⟨(Builtin.zeroCells z.cells (fQ-(len+n))).toList,fQ,by omega,by rw[OR,qJ],?_⟩;have yT:∃d,P.underlying k1=some d/\(match d with|.int _=>true|_=>false)=false:=by grind[BY]
 obtain⟨n7,yU,Ap⟩:=yT;have Ck:(typeInfo e).run P w=.ok i w:=by simp[typeInfo,an]
 have jJ:(sizeOf e).run P w=.ok i.size w:=by simp_all[sizeOf]
 have xN:¬Builtin.nextslicecap (len+n) cap*i.bytes>2^48:=by have:=nextslicecap_le Ao;have h2:=mul_le_mul_right i.bytes this;omega
 have OT:¬(((len+n:Nat):Int)>IntKind.i64.max/\(False\/i.bytes=0)):=by
  have e:IntKind.i64.max=9223372036854775807:=by decide
  omega
 have bY:(Question.appendCap (len+n) cap e).forced=false:=rfl;have OU:(Question.appendCap (len+n) cap e).cut (w.tape w.drawn (.appendCap (len+n) cap e))=fQ:=rfl;simp only[Builtin.append_,List.getElem?_toArray,List.getElem?_cons_zero,List.getElem?_cons_succ,Sem.run_bind,run_underlying bf,run_underlying yU,Result.andThen_ok,jJ,Sem.run_pure];cases n7<;>simp only[]at Ap<;>try cases Ap
 all_goals
  simp only[Sem.run_bind,Result.andThen_ok,Bool.false_eq_true,if_false,hlen];rw[Sem.run_ite,if_neg (by omega)];simp only[Sem.run_bind,Ck,Result.andThen_ok,Sem.run_ite];rw[if_neg OT,if_neg xN];simp only[run_choose,bY,OU,Bool.false_eq_true,if_false,Result.andThen_ok,Sem.run_pure];simp only[typeInfo,an,Sem.run_bind,run_program,Result.andThen_ok,Sem.run_pure,run_askRoom,n2,Cf,mF,Bool.not_false,if_true,newRow,run_newObj]
  congr 2
  apply congrArg (fun a=>w.heap.push (Obj.cells a e (0,0)));apply Array.ext';simp
theorem OV{k0 k1 de e:TypeId}(bf:P.underlying k0=some (.slice e))(ao:BY P k1=true){size:Nat}(an:hk P e=some size)(a:Addr)(len cap n:Nat)(x:Value)(cY:List Value)
  (hlen:(Builtin.lenOf x).run P w=.ok n w) (Ao:len+n<=cap) (Cf:(Builtin.firstCells size n x).run P w=.ok cY.toArray w) {aW:World} (ev:(storeCells (a.add (len*size)) cY).run P w=.ok () aW):
  (Builtin.append_ #[k0,k1] de #[.slice (some a) len cap,x]).run P w=.ok (.slice (some a) (len+n) cap) aW:=by
 have yT:∃d,P.underlying k1=some d/\(match d with|.int _=>true|_=>false)=false:=by grind[BY]
 obtain⟨n7,yU,Ap⟩:=yT;simp only[Builtin.append_,List.getElem?_toArray,List.getElem?_cons_zero,List.getElem?_cons_succ,Sem.run_bind,run_underlying bf,run_underlying yU,Result.andThen_ok,o7 an,Sem.run_pure];cases n7<;>simp only[]at Ap<;>try cases Ap
 all_goals
  simp only[Sem.run_bind,Result.andThen_ok,Bool.false_eq_true,if_false,hlen];rw[Sem.run_ite,if_pos Ao];simp only[Sem.run_bind,Bool.not_false,if_true,Cf,Result.andThen_ok,ev,Sem.run_pure]
theorem aky{k0 k1 de e:TypeId}(bf:P.underlying k0=some (.slice e))(ao:BY P k1=true){size:Nat}(an:hk P e=some size)(x:Value)(cY:List Value)
  (hlen:(Builtin.lenOf x).run P w=.ok 0 w) (Cf:(Builtin.firstCells size 0 x).run P w=.ok cY.toArray w):
  (Builtin.append_ #[k0,k1] de #[.slice none 0 0,x]).run P w=.ok (.slice none 0 0) w:=by
 have yT:∃d,P.underlying k1=some d/\(match d with|.int _=>true|_=>false)=false:=by grind[BY]
 obtain⟨n7,yU,Ap⟩:=yT;simp only[Builtin.append_,List.getElem?_toArray,List.getElem?_cons_zero,List.getElem?_cons_succ,Sem.run_bind,run_underlying bf,run_underlying yU,Result.andThen_ok,o7 an,Sem.run_pure];cases n7<;>simp only[]at Ap<;>try cases Ap
 all_goals
  simp only[Sem.run_bind,Result.andThen_ok,Bool.false_eq_true,if_false,hlen];rw[Sem.run_ite,if_pos (by omega)];simp only[Sem.run_bind,Bool.not_false,if_true,Cf,Result.andThen_ok,Sem.run_pure]
theorem akz{aq:List Value}{id:Nat}(al:ky σ B h w)(fp:σ H.next=none)(dC:id≠H.next)(ak:H.get id≠none)(i:Nat)(b:ax)
  (bf:iE h H ⟨(H.t.set id none).set H.next (some ⟨aq,true⟩),Nat.succ H.next,H.dS,H.ed⟩ i=some b):(i=H.next/\b=⟨aq,true⟩)\/(i≠H.next/\i≠id/\h i=some b):=by
 have aU:h H.next=none:=by
  cases hh:h H.next with
  | none=>rfl
  | some b=>obtain⟨c,o,s,_,_,_,h1,_⟩:=al.ga _ _ hh;simp_all
 unfold iE at bf;by_cases an:i=H.next;subst an;split at bf
 simp_all
 rcases Tr.Er _ _ _ _ _ bf with⟨_,h2⟩|⟨h1,_⟩
 simp_all
 omega;right;have a7:(au.get ⟨(H.t.set id none).set H.next (some ⟨aq,true⟩),Nat.succ H.next,H.dS,H.ed⟩ i)=(H.t.set id none).get i:=Tr.l9 _ _ _ _ an;rw[a7]at bf;by_cases tb:i=id
 simp_all[Tr.Ai]
 rw[Tr.l9 _ _ _ _ tb]at bf;have bt:H.t.get i=H.get i:=rfl
 simp_all
theorem akA{n:Nat}(al:ky σ B h w)(id:Nat)(b:ax)(ak:h id=some b)(L:Nat):lV B σ h n w σ (fun j=>if j=id then some ⟨b.cells.take L,b.wr⟩else h j) n w:=by
 have aq:∀j di,(if j=id then some (⟨b.cells.take L,b.wr⟩:ax)else h j)=some di->∃eh,h j=some eh/\eh.wr=di.wr:=by grind
 refine⟨⟨fun j di bm=>?_,fun j di bm aM=>?_,fun i j iU gI dC an bm aM=>?_⟩,Nat.le_refl _,fun _ _=>rfl,fun _ _ h=>h,rfl,rfl,rfl,Nat.le_refl _,fun _ _ _=>rfl,fun c ⟨j,di,o,s,bm,aM,aB⟩ _=>?_⟩;have bm:(if j=id then some (⟨b.cells.take L,b.wr⟩:ax)else h j)=some di:=bm;split at bm;rename_i e;cases bm;subst e;obtain⟨c,o,s,dD,de,eC,a7,bt,ei,h6,hR,ih⟩:=al.ga j b ak;refine⟨c,o,s,dD,de,eC,a7,bt,ei,?_,?_,ih⟩
 grind
 have:=hR.take L
 grind
 exact al.ga j di bm;obtain⟨eh,h1,h2⟩:=aq j di bm;exact al.own j eh h1 (h2.trans aM);obtain⟨eh,h1,h2⟩:=aq i iU an;obtain⟨b1,h3,_⟩:=aq j gI bm;exact al.lU i j eh b1 dC h1 h3 (h2.trans aM);obtain⟨eh,h1,h2⟩:=aq j di bm;exact⟨j,eh,o,s,h1,h2.trans aM,aB⟩
theorem wrap_i64{n:Int}(aJ:0<=n)(h:n<=9223372036854775807):IntKind.i64.wrap n=n:=by
 have:iN .i64 n=IntKind.i64.wrap n:=vg .i64 n;rw[<- this];unfold iN u2;cases n with
 | ofNat m=>grind[qI]
 | negSucc m=>omega
theorem akB{k0 k1 de e:TypeId}(bf:P.underlying k0=some (.slice e))(ao:Eg P k1=true){i:TypeInfo}(an:P.info? e=some i){z:Value}(dU:iL P e=some z)
  (qJ:z.cells.size=i.size) (bJ:0<i.size) (n:Nat) (aU:0<n) (vn:yK n i.bytes=true):
  ∃(ef:List Value) (fQ:Nat),n<=fQ/\ef.length=(fQ-n)*i.size/\(Builtin.append_ #[k0,k1] de #[.slice none 0 0,.int .i64 n]).run P w=
   .ok (.slice (some ⟨w.heap.size,0,none⟩) n fQ) {w with heap:=w.heap.push (.cells ((Builtin.zeroCells z.cells n).toList++ef).toArray e (0,0)),drawn:=w.drawn+1}:=by
 obtain⟨mF,_⟩:=uc (P:=P) dU {w with drawn:=w.drawn+1};simp only[yK,Bool.and_eq_true,mE,decide_eq_true_eq]at vn;obtain⟨r1,r2⟩:=vn
 let fQ:=n+(w.tape w.drawn (.appendCap n 0 e))%(2^63-n)
 refine⟨(Builtin.zeroCells z.cells (fQ-n)).toList,fQ,by omega,by rw[OR,qJ],?_⟩;have yT:∃k,P.underlying k1=some (.int k):=by grind[Eg]
 obtain⟨k,yU⟩:=yT;have Ck:(typeInfo e).run P w=.ok i w:=by simp[typeInfo,an]
 have jJ:(sizeOf e).run P w=.ok i.size w:=by simp_all[sizeOf]
 have xN:¬Builtin.nextslicecap n 0*i.bytes>2^48:=by have:=nextslicecap_le (need:=n) (old:=0) aU;have h2:=mul_le_mul_right i.bytes this;omega
 have o9:¬((n:Int)*(i.bytes:Int)>2^48):=by grind
 have OT:¬(((n:Nat):Int)>IntKind.i64.max/\(True\/i.bytes=0)):=by
  have e:IntKind.i64.max=9223372036854775807:=by decide
  omega
 have aM:IntKind.i64.wrap (n:Int)=n:=wrap_i64 (by omega) (by omega);have bY:(Question.appendCap n 0 e).forced=false:=rfl;have OU:(Question.appendCap n 0 e).cut (w.tape w.drawn (.appendCap n 0 e))=fQ:=rfl;have Cl:¬n*i.size=0:=by have:=Nat.mul_pos aU bJ;omega
 simp only[Builtin.append_,List.getElem?_toArray,List.getElem?_cons_zero,List.getElem?_cons_succ,Sem.run_bind,run_underlying bf,run_underlying yU,Result.andThen_ok,jJ,Sem.run_pure,asInt];simp only[if_true,asIntOf,Sem.run_bind,Sem.run_pure,Result.andThen_ok,aM];rw[Sem.run_ite,if_neg (by omega)];simp only[Sem.run_bind,Ck,Result.andThen_ok];rw[Sem.run_ite,if_neg o9];simp only[Sem.run_bind,Sem.run_pure,Result.andThen_ok,Int.toNat_natCast,Nat.zero_add];rw[Sem.run_ite,if_neg (by omega)];simp only[Sem.run_bind,Ck,Result.andThen_ok,Sem.run_ite];rw[if_neg OT,if_neg xN];simp only[run_choose,bY,OU,Bool.false_eq_true,if_false,Result.andThen_ok,Sem.run_pure];simp only[typeInfo,an,Sem.run_bind,run_program,Result.andThen_ok,Sem.run_pure,run_askRoom,mF,Bool.not_true,if_false,Bool.false_eq_true,newRow,run_newObj,Builtin.firstCells];rw[if_neg Cl];simp only[Result.andThen_ok,mF]
 congr 2
 apply congrArg (fun a=>w.heap.push (Obj.cells a e (0,0)))
 simp_all
theorem akC{k0 k1 de e:TypeId}(bf:P.underlying k0=some (.slice e))(ao:Eg P k1=true){i:TypeInfo}(an:P.info? e=some i):
  (Builtin.append_ #[k0,k1] de #[.slice none 0 0,.int .i64 ((0:Nat):Int)]).run P w=.ok (.slice none 0 0) w:=by
 have yT:∃k,P.underlying k1=some (.int k):=by grind[Eg]
 obtain⟨k,yU⟩:=yT;have Ck:(typeInfo e).run P w=.ok i w:=by simp[typeInfo,an]
 have jJ:(sizeOf e).run P w=.ok i.size w:=by simp_all[sizeOf]
 have aM:IntKind.i64.wrap ((0:Nat):Int)=((0:Nat):Int):=wrap_i64 (by omega) (by omega);simp only[Builtin.append_,List.getElem?_toArray,List.getElem?_cons_zero,List.getElem?_cons_succ,Sem.run_bind,run_underlying bf,run_underlying yU,Result.andThen_ok,jJ,Sem.run_pure,asInt];simp only[if_true,asIntOf,Sem.run_bind,Sem.run_pure,Result.andThen_ok,aM];rw[Sem.run_ite,if_neg (by omega)];simp only[Sem.run_bind,Ck,Result.andThen_ok];rw[Sem.run_ite,if_neg (by omega)];simp only[Sem.run_bind,Sem.run_pure,Result.andThen_ok,Int.toNat_natCast,Nat.zero_add]
 simp_all
theorem akD{k0 k1 de:TypeId}{s cl x bR v:Value}(al:ky σ B h w)(b6:B<=w.heap.size)(fp:∀i,H.next<=i->i<ab.next->σ i=none)(wG:Eg P k1=true)
  (vo:cq σ s cl) (j8:cq σ x bR) (U:(Ef P k0).f [s,x] H=some (v,ab)):ha P B (Builtin.append_ #[k0,k1] de #[cl,bR]) w σ h H v ab:=by
 unfold Ef at U;split at U
 case h_2=>cases U
 case h_1 e bf=>
 split at U
 case h_2=>cases U
 case h_1 i an=>
 split at U
 case h_2=>cases U
 case h_1 z dU=>
 split at U
 case h_2=>cases U
 case h_1 bY=>
 simp only[Bool.and_eq_true,qI,hB,decide_eq_true_eq]at bY;obtain⟨bJ,ta⟩:=bY;have ta:=eq_of_beq_eq_true ta;have qJ:z.cells.size=i.size:=by grind[JR]
 simp only[ig]at U;unfold Jq at U;split at U
 case h_2=>cases U
 case h_1 a len c=>
 split at U
 case h_1=>cases U
 case h_2=>
 split at U
 case h_2=>cases U
 case h_1 k n=>
 split at U
 case h_2=>cases U
 case h_1=>
 split at U
 case h_2=>cases U
 case h_1 ak=>
 rw[Bool.and_eq_true,Bool.and_eq_true]at ak;obtain⟨rF,jo,mb⟩:=ak;obtain rfl:=eq_of_beq_eq_true jo;obtain rfl:=eq_of_beq_eq_true mb;have aJ:0<=n:=by simp_all[lf]
 obtain⟨m,rfl⟩:∃m:Nat,n=m:=⟨n.toNat,by omega⟩;obtain rfl:cl=.slice none 0 0:=by cases vo;rfl
 obtain rfl:bR=.int .i64 m:=by cases j8;rfl
 rw[Int.toNat_natCast]at U;split at U
 case h_1 hm=>grind[eq_of_beq_eq_true,ha.pure,akC]
 case h_2 hm=>
  have hm:0<m:=by grind
  split at U
  case h_2=>cases U
  case h_1 vn=>
  obtain⟨ef,fQ,cg,cd,g3⟩:=akB (P:=P) (w:=w) (de:=de) bf wG an dU qJ bJ m hm vn;obtain⟨_,OW⟩:=uc (P:=P) dU w;have akE:bL σ (gv m (dr z)) (Builtin.zeroCells z.cells m).toList:=by
   have a7:(Builtin.zeroCells z.cells m).toList=gv m z.cells.toList:=by grind[Builtin.zeroCells,JS]
   rw[a7];exact(wC OW).cells.gv m
  obtain⟨τ,id,rfl,ma,hg⟩:=Ew (ef:=ef) al b6 fp akE e (0,0) (by simp) (w.drawn+1) U;refine⟨_,_,τ,g3,?_,hg⟩;refine Ev ma bJ cg ?_;rw[cd,OR,qJ,<- Nat.add_mul]
  simp_all
theorem akF{k0 k1 de:TypeId}{s cl x bR v:Value}(al:ky σ B h w)(b6:B<=w.heap.size)(fp:∀i,H.next<=i->i<ab.next->σ i=none)(hC:vi h H s)(rG:vi h H x)
  (vo:cq σ s cl) (j8:cq σ x bR) (U:(Ee P [k0,k1]).f [s,x] H=some (v,ab)):ha P B (Builtin.append_ #[k0,k1] de #[cl,bR]) w σ h H v ab:=by
 unfold Ee at U;simp only at U;split at U
 case h_2=>cases U
 case h_1 e bf=>
 split at U
 case h_2=>cases U
 case h_1 i an=>
 split at U
 case h_2=>cases U
 case h_1 z dU=>
 split at U
 case h_2=>cases U
 case h_1 bY=>
 simp only[Bool.and_eq_true,qI,hB,decide_eq_true_eq]at bY;obtain⟨⟨bJ,ta⟩,wG⟩:=bY;have ta:=eq_of_beq_eq_true ta;have qJ:z.cells.size=i.size:=by grind[JR]
 have fc:hk P e=some i.size:=by simp[hk,an]
 simp only[ig,gw]at U;split at U
 case h_2=>cases U
 case h_1 n aU=>
 split at U
 case h_2=>cases U
 case h_1 cY dC=>
 have jJ:ky σ B h {w with drawn:=w.drawn+1}:=⟨al.ga,al.own,al.lU⟩;obtain⟨qd,fo,fN,xO⟩:=JX (P:=P) al rG j8 aU (Nat.le_refl _) dC;obtain⟨GU,fw,dV,qK⟩:=JX (P:=P) jJ rG j8 aU (Nat.le_refl _) dC;have mc:=JW (P:=P) (w:=w) j8 aU;have GV:qd.length=n*i.size:=by rw[<- fN.length];exact xO
 have ue:GU.length=n*i.size:=by rw[<- dV.length];exact qK
 unfold rA at U;cases vo<;>simp only at U<;>try cases U
 case lg _=>
  split at U
  ·rename_i aJ;cases U;have aJ:=eq_of_beq_eq_true aJ;subst aJ;exact ha.pure al ⟨_,aky bf wG fc bR qd mc fo,.lg .nil⟩
  ·rename_i aJ;have aJ:n≠0:=fun e=>by simp_all
   split at U
   ·rename_i vn;obtain⟨ef,fQ,cg,cd,g3⟩:=OS (P:=P) (w:=w) (de:=de) bf wG an dU qJ none 0 0 n bR [] GU mc (by omega) (by simp_all) rfl fw;obtain⟨τ,id,rfl,ma,hg⟩:=Ew (ef:=ef) al b6 fp dV e (0,0) (by simp) (w.drawn+1) U;refine⟨_,_,τ,g3,?_,by simp_all⟩;rw[Nat.zero_add]at*;refine Ev ma bJ cg ?_;rw[cd,ue,<- Nat.add_mul]
    simp_all
   grind
 case o5 id off len qc c o cT a eo su j6 _=>
  split at U
  ·rename_i aJ;cases U;have aJ:=eq_of_beq_eq_true aJ;subst aJ;refine ha.pure al ⟨_,?_,.o5 id off len qc c o cT a eo su j6 .nil⟩;have xP:qd=[]:=length_eq_zero_iff.1 (by omega);subst xP;exact OV (w:=w) bf wG fc a len len 0 bR [] mc (by omega) fo rfl
  ·rename_i aJ;have aJ:n≠0:=fun e=>by simp_all
   split at U
   ·rename_i vn;split at U
    case isFalse aB=>grind[eq_of_beq_eq_true]
    case isTrue=>
    unfold z1 at U;split at U
    case h_2=>cases U
    case h_1 old n2=>
    have OX:∃xQ,(Builtin.firstCells i.size len (.slice (some a) len len)).run P {w with drawn:=w.drawn+1}=.ok xQ.toArray {w with drawn:=w.drawn+1}/\bL σ old xQ/\old.length=len*i.size:=by
     split at n2
     ·rename_i tc;cases n2;have tc:=eq_of_beq_eq_true tc
      simp_all[Builtin.firstCells,loadCells,loadCellsFrom]
     ·rename_i tc;have tc:len≠0:=fun e=>by simp_all
      have j6:a=⟨c,o+off,none⟩:=(j6.resolve_left tc).1;subst j6;obtain⟨aA,bP,q2,cS⟩:=Cj (P:=P) jJ (hC id rfl) n2 eo;exact⟨aA,bP,q2,cS⟩
    obtain⟨xQ,b3,dL,hJ⟩:=OX;obtain⟨ef,fQ,cg,cd,g3⟩:=OS (P:=P) (w:=w) (de:=de) bf wG an dU qJ (some a) len len n bR xQ GU mc (by omega) vn b3 fw;rw[jm]at U;obtain⟨τ,ve,rfl,ma,hg⟩:=Ew (ef:=ef) al b6 fp (dL.append dV) e (0,0) (by simp) (w.drawn+1) U;refine⟨_,_,τ,g3,?_,hg⟩;refine Ev ma bJ cg ?_;have:=dL.length;rw[cd,length_append,ue,<- this,hJ,<- Nat.add_mul,<- Nat.add_mul]
    simp_all
   grind
 case oL id off len qc cap c o cT a eo su j7 j6 _=>
  split at U
  ·rename_i aJ;cases U;have aJ:=eq_of_beq_eq_true aJ;subst aJ;refine ha.pure al ⟨_,?_,.oL id off len qc cap c o cT a eo su j7 j6 .nil⟩;have xP:qd=[]:=length_eq_zero_iff.1 (by omega);subst xP;exact OV (w:=w) bf wG fc a len cap 0 bR [] mc (by omega) fo rfl
  ·rename_i aJ;have aJ:n≠0:=fun e=>by simp_all
   split at U
   case isFalse=>cases U
   case isTrue vn=>
   split at U
   case isTrue aB=>grind[eq_of_beq_eq_true]
   case isFalse=>
   split at U
   case isFalse=>cases U
   case isTrue xR=>
   have xR:=eq_of_beq_eq_true xR;obtain rfl:qc=i.size:=by omega
   unfold BW at U;cases hg:H.get id with
   | none=>simp_all
   | some b=>
    rw[hg]at U;simp only at U;split at U
    case h_2=>cases U
    case h_1 bY=>
    simp only[Bool.and_eq_true,au.o2,hB]at bY;obtain⟨⟨aM,_⟩,OY,akG⟩:=bY;rw[mE]at OY;have OY:=of_decide_eq_true OY;have ak:=hC id rfl b hg;have GW:=akA (n:=H.next) al id b ak (off+len*i.size);simp only[mB,au.cY,au.set,jm,n1,ni]at U;cases U;have rH:(b.cells.drop off).take (len*i.size)=(b.cells.take (off+len*i.size)).drop off:=by grind
    have akH:(b.cells.take (off+len*i.size)).length=off+len*i.size:=by simp_all
    have rI:∀j di,j≠id->h j=some di->(if j=id then some (⟨b.cells.take (off+len*i.size),b.wr⟩:ax)else h j)=some di:=fun j di dC bm=>by simp_all
    generalize Aq:b.cells.take (off+len*i.size)=iF at*;obtain⟨bV,dK,cl,dD,Wq,eC,a7,bt,ei,h6,hR,ih⟩:=GW.gb.ga id ⟨iF,b.wr⟩ (if_pos rfl);rw[eo]at a7;cases a7;simp only at h6 hR;have ah:σ H.next=none:=fp H.next (Nat.le_refl _) (lt_succ_self _);have akI:id≠H.next:=fun e=>by simp_all
    have Wr:=fun j di=>akz (aq:=iF.drop off++cY) (h:=h) (H:=H) (id:=id) al ah akI (by grind) j di
    by_cases wH:len+n<=cap
    ·-- in gj
     have j6:a=⟨c,o+off,none⟩/\o+off+cap*i.size<=cT:=by
      rcases j6 with hh|⟨_,h2⟩
      ·exact hh
      ·omega
     obtain⟨rfl,Ao⟩:=j6;have aEX:o+iF.length+qd.length<=dD.size:=by
      rw[GV,akH,ei];have:=mul_le_mul_right i.size wH
      grind
     have rJ:∀u∈qd,u.oneCell'=true:=Wi fN akG;have ev:=OG (P:=P) c (o+off+len*i.size) Wq eC qd 0 dD w bt (by omega) rJ (fun j bm=>(ih aM).2 j (by omega))
     let bz:ax:=⟨iF++cY,b.wr⟩
     let s7:=(dD.toList.take (o+off+len*i.size+0)++qd++dD.toList.drop (o+off+len*i.size+0+qd.length)).toArray
     have JY:lV B σ (fun j=>if j=id then some (⟨iF,b.wr⟩:ax)else h j) H.next w σ (fun j=>if j=id then some bz else h j) H.next (w.setRow c s7):=by
      refine akv GW.gb id ⟨iF,b.wr⟩ bz (if_pos rfl) aM c o cT dD s7 Wq eC eo bt ?_ ?_ ?_ _ ?_
      ·simp[s7];omega
      ·grind
      ·have hlen:bz.cells.length=iF.length+qd.length:=by grind
       have hm:(s7.toList.drop o).take bz.cells.length=(dD.toList.drop o).take iF.length++qd:=by
        rw[hlen];apply ext_getElem?;intro k;have hL:o+off+len*i.size+0=o+iF.length:=by omega
        simp only[s7,hL,List.getElem?_take,List.getElem?_drop,List.getElem?_append,length_append,length_take,length_drop,Array.length_toList];have cU:min (o+iF.length) dD.size=o+iF.length:=by omega
        have cR:min iF.length (dD.size-o)=iF.length:=by omega
        simp only[cU,cR];by_cases dZ:k<iF.length
        ·simp[dZ,show k<iF.length+qd.length by omega,show o+k<o+iF.length+qd.length by omega,show o+k<o+iF.length by omega]
        ·by_cases gd:k<iF.length+qd.length
         ·simp only[dZ,gd,if_true,if_false,show o+k<o+iF.length+qd.length by omega,show¬o+k<o+iF.length by omega]
          congr 1;omega
         grind
       rw[hm];exact hR.append fN
      ·intro j di bm;by_cases JZ:j=id
       ·simp_all
       simp_all
     have OZ:lV B σ (fun j=>if j=id then some bz else h j) H.next (w.setRow c s7) (fun j=>if j=H.next then some (c,o+off,cT)else σ j) (iE h H ⟨(H.t.set id none).set H.next (some ⟨iF.drop off++cY,true⟩),Nat.succ H.next,H.dS,H.ed⟩) (H.next+1) (w.setRow c s7):=by
      refine akw JY.gb id H.next off bz (by simp) aM c o cT eo ah (by grind) _ ?_;intro j di bm;rcases Wr j di bm with⟨bP,q2⟩|⟨bP,q2,cS⟩
      ·left;refine⟨bP,q2.trans ?_⟩;simp only[bz]
       simp_all[drop_append_of_le_length]
      simp_all
     refine⟨.slice (some ⟨c,o+off,none⟩) (len+n) cap,_,_,?_,?_,GW.trans (JY.trans OZ)⟩
     ·refine OV (w:=w) bf wG fc ⟨c,o+off,none⟩ len cap n bR qd mc wH fo ?_
      grind[Es]
     ·exact .oL H.next 0 (len+n) i.size cap c (o+off) cT _ (if_pos rfl) bJ wH (.inl ⟨by simp,by omega⟩) .nil
    ·-- a cY array
     have OX:∃xQ,(Builtin.firstCells i.size len (.slice (some a) len cap)).run P {w with drawn:=w.drawn+1}=.ok xQ.toArray {w with drawn:=w.drawn+1}/\bL σ (iF.drop off) xQ:=by
      rcases j6 with⟨rfl,_⟩|⟨rfl,rfl⟩
      ·have:s0 H id off (len*i.size)=some (iF.drop off):=by simp_all[Cb,yI,ni,n1,hB]
       obtain⟨aA,bP,q2,cS⟩:=Cj (P:=P) jJ (hC id rfl) this eo;exact⟨aA,bP,q2⟩
      simp_all[Builtin.firstCells,loadCells,loadCellsFrom,drop_eq_nil_of_le]
     obtain⟨xQ,b3,dL⟩:=OX;have Ws:(iF.drop off).length=len*i.size:=by simp;omega
     obtain⟨ef,fQ,cg,cd,g3⟩:=OS (P:=P) (w:=w) (de:=de) bf wG an dU qJ (some a) len cap n bR xQ GU mc (by omega) vn b3 fw;have akJ:=V7 al b6 H.next ah (iF.drop off++cY) (xQ++GU) ef e (0,0) (dL.append dV) (by simp) (w.drawn+1) (iE h H ⟨(H.t.set id none).set H.next (some ⟨iF.drop off++cY,true⟩),Nat.succ H.next,H.dS,H.ed⟩)
      (fun j di bm=>by
       rcases Wr j di bm with q|⟨bP,_,cS⟩
       ·grind
       simp_all)
     refine⟨_,_,_,g3,?_,akJ⟩;refine Ev (if_pos rfl) bJ cg ?_;have:=dL.length;rw[cd,length_append,ue,<- this,Ws,<- Nat.add_mul,<- Nat.add_mul]
     simp_all
end
end Go.Ab
namespace Go.Ab
open Go
section
variable{P:Program}{σ:c8}{B:Nat}{h:Nat->Option ax}{H ab:au}{w:World}
theorem akK{s3 k0 de:TypeId}{d eM x bR v:Value}(al:ky σ B h w)(GX:vi h H d)(rG:vi h H x)(Cm:cq σ d eM)(j8:cq σ x bR)
  (U:(z6 P [s3,k0]).f [d,x] H=some (v,ab)):ha P B (Builtin.copy_ #[s3,k0] de #[eM,bR]) w σ h H v ab:=by
 unfold z6 at U;simp only at U;split at U
 case h_2=>cases U
 case h_1 e bf=>
 split at U
 case h_2=>cases U
 case h_1 size fc=>
 split at U
 case isFalse=>cases U
 case isTrue bJ=>
 simp only[ig,rB]at U;cases Cm<;>simp only at U<;>try cases U
 case lg _=>
  split at U
  case h_2=>cases U
  case h_1 aC aD=>
  split at U
  case isFalse aB=>simp at aB
  case isTrue aB=>
  cases U;have mc:=JW (P:=P) (w:=w) j8 aD;have akL:Nat.min aC 0=0:=Nat.min_zero aC;refine ha.pure al ⟨.int .i64 0,?_,.int⟩;have hf:∃aA,(Builtin.firstCells size 0 bR).run P w=.ok aA w:=by
   cases j8<;>simp only[nC]at aD<;>try cases aD
   ·exact⟨_,rfl⟩
   ·exact⟨_,rfl⟩
   ·simp_all[Builtin.firstCells,loadCells,loadCellsFrom]
   simp_all[Builtin.firstCells,loadCells,loadCellsFrom]
  obtain⟨aA,hf⟩:=hf;simp only[Builtin.copy_,List.getElem?_toArray,List.getElem?_cons_zero,List.getElem?_cons_succ,Sem.run_bind,run_underlying bf,Result.andThen_ok,mc,o7 fc,akL,hf,Sem.run_pure];rfl
 case o5 id off len qc c o s a eo su j6 _=>
  split at U
  case h_2=>cases U
  case h_1 aC aD=>
  have mc:=JW (P:=P) (w:=w) j8 aD;split at U
  case isTrue aJ=>
   cases U;have aJ:=eq_of_beq_eq_true aJ;have hf:∃aA:List Value,(Builtin.firstCells size 0 bR).run P w=.ok aA.toArray w/\aA.length=0:=by
    cases j8<;>simp only[nC]at aD<;>try cases aD
    ·rename_i me _ _;exact⟨[],by show Result.ok ((me.extract 0 0).data.map fun b=>Value.int .u8 b.toNat) w=_;simp_all,rfl⟩
    ·exact⟨[],rfl,rfl⟩
    ·simp_all[Builtin.firstCells,loadCells,loadCellsFrom]
    simp_all[Builtin.firstCells,loadCells,loadCellsFrom]
   obtain⟨aA,hf,tc⟩:=hf;obtain rfl:=length_eq_zero_iff.1 tc;refine ha.pure al ⟨.int .i64 0,?_,.int⟩;simp only[Builtin.copy_,List.getElem?_toArray,List.getElem?_cons_zero,List.getElem?_cons_succ,Sem.run_bind,run_underlying bf,Result.andThen_ok,mc,o7 fc,aJ,hf,Sem.run_pure];rfl
  case isFalse aJ=>
   have aJ:Nat.min aC len≠0:=fun e=>by simp_all
   split at U
   case h_2=>cases U
   case h_1 cY dC=>
   split at U
   case h_2=>cases U
   case h_1 bB aM=>
   cases U;have O0:Nat.min aC len<=aC:=Nat.min_le_left _ _;have akM:Nat.min aC len<=len:=Nat.min_le_right _ _;obtain⟨qd,fo,fN,xO⟩:=JX (P:=P) al rG j8 aD O0 dC;obtain rfl:a=⟨c,o+off,none⟩:=(j6.resolve_left (by omega)).1;obtain⟨aW,dT,fb,kz⟩:=JN (P:=P) al (GX id rfl) aM fN eo H.next;refine⟨.int .i64 (Nat.min aC len),aW,σ,?_,.int,by simp_all⟩;simp only[Builtin.copy_,List.getElem?_toArray,List.getElem?_cons_zero,List.getElem?_cons_succ,Sem.run_bind,run_underlying bf,Result.andThen_ok,mc,o7 fc,fo,Sem.run_pure,dT];rfl
 case oL id off len qc cap c o s a eo su j7 j6 _=>
  split at U
  case h_2=>cases U
  case h_1 aC aD=>
  have mc:=JW (P:=P) (w:=w) j8 aD;split at U
  case isTrue aJ=>
   cases U;have aJ:=eq_of_beq_eq_true aJ;have hf:∃aA:List Value,(Builtin.firstCells size 0 bR).run P w=.ok aA.toArray w/\aA.length=0:=by
    cases j8<;>simp only[nC]at aD<;>try cases aD
    ·rename_i me _ _;exact⟨[],by show Result.ok ((me.extract 0 0).data.map fun b=>Value.int .u8 b.toNat) w=_;simp_all,rfl⟩
    ·exact⟨[],rfl,rfl⟩
    ·simp_all[Builtin.firstCells,loadCells,loadCellsFrom]
    simp_all[Builtin.firstCells,loadCells,loadCellsFrom]
   obtain⟨aA,hf,tc⟩:=hf;obtain rfl:=length_eq_zero_iff.1 tc;refine ha.pure al ⟨.int .i64 0,?_,.int⟩;simp only[Builtin.copy_,List.getElem?_toArray,List.getElem?_cons_zero,List.getElem?_cons_succ,Sem.run_bind,run_underlying bf,Result.andThen_ok,mc,o7 fc,aJ,hf,Sem.run_pure];rfl
  case isFalse aJ=>
   have aJ:Nat.min aC len≠0:=fun e=>by simp_all
   split at U
   case h_2=>cases U
   case h_1 cY dC=>
   split at U
   case h_2=>cases U
   case h_1 bB aM=>
   cases U;have O0:Nat.min aC len<=aC:=Nat.min_le_left _ _;have akM:Nat.min aC len<=len:=Nat.min_le_right _ _;obtain⟨qd,fo,fN,xO⟩:=JX (P:=P) al rG j8 aD O0 dC;obtain rfl:a=⟨c,o+off,none⟩:=by simp_all
   obtain⟨aW,dT,fb,kz⟩:=JN (P:=P) al (GX id rfl) aM fN eo H.next;refine⟨.int .i64 (Nat.min aC len),aW,σ,?_,.int,by simp_all⟩;simp only[Builtin.copy_,List.getElem?_toArray,List.getElem?_cons_zero,List.getElem?_cons_succ,Sem.run_bind,run_underlying bf,Result.andThen_ok,mc,o7 fc,fo,Sem.run_pure,dT];rfl
theorem akN{t de:TypeId}{x bR v:Value}(al:ky σ B h w)(rG:vi h H x)(j8:cq σ x bR)(U:(GB P t).f x H=some (v,ab)):
  ha P B (Builtin.clear_ #[t] de #[bR]) w σ h H v ab:=by
 unfold GB at U;split at U
 case h_2=>cases U
 case h_1 e bf=>
 split at U
 case h_2=>cases U
 case h_1 z dU=>
 obtain⟨mF,o8⟩:=uc dU w;have df:bL σ (dr z) z.cells.toList:=(wC o8).cells;have OW:∀n,(Builtin.zeroCells z.cells n).toList=gv n z.cells.toList:=fun n=>by grind[Builtin.zeroCells,JS]
 simp only[z7]at U;have wr:∀(id off len:Nat) (c o s:Nat) (fo:σ id=some (c,o,s)) (bB:au),GR h H id->wi H id off (gv len (dr z))=some bB->
   ∃aW,(storeCells ⟨c,o+off,none⟩ (Builtin.zeroCells z.cells len).toList).run P w=.ok () aW/\lV B σ h H.next w σ (iE h H bB) bB.next aW:=by
  intro id off len c o s fo bB bn aM;rw[OW];obtain⟨aW,dT,fb,kz⟩:=JN (P:=P) al bn aM (df.gv len) fo H.next
  simp_all
 cases j8<;>simp only at U<;>try cases U
 case lg _=>exact ha.pure al ⟨.tuple #[],by simp[Builtin.clear_,run_underlying bf],.tuple _ _ .nil .nil⟩
 case o5 id off len qc c o s a eo su j6 _=>
  split at U
  ·rename_i aJ;cases U;have aJ:=eq_of_beq_eq_true aJ;subst aJ;exact ha.pure al ⟨.tuple #[],by simp[Builtin.clear_,run_underlying bf],.tuple _ _ .nil .nil⟩
  ·rename_i aJ;have aJ:len≠0:=fun e=>by simp_all
   split at U
   case h_2=>cases U
   case h_1 bB aM=>
   cases U;obtain rfl:a=⟨c,o+off,none⟩:=(j6.resolve_left aJ).1;obtain⟨aW,dT,fb⟩:=wr id off len c o s eo _ (rG id rfl) aM;refine⟨.tuple #[],aW,σ,?_,.tuple _ _ .nil .nil,fb⟩;obtain⟨m,rfl⟩:∃m,len=m+1:=⟨len-1,by omega⟩;simp[Builtin.clear_,run_underlying bf,mF,dT]
 case oL id off len qc cap c o s a eo su j7 j6 _=>
  split at U
  ·rename_i aJ;cases U;have aJ:=eq_of_beq_eq_true aJ;subst aJ;exact ha.pure al ⟨.tuple #[],by simp[Builtin.clear_,run_underlying bf],.tuple _ _ .nil .nil⟩
  ·rename_i aJ;have aJ:len≠0:=fun e=>by simp_all
   split at U
   case h_2=>cases U
   case h_1 bB aM=>
   cases U;obtain rfl:a=⟨c,o+off,none⟩:=by simp_all
   obtain⟨aW,dT,fb⟩:=wr id off len c o s eo _ (rG id rfl) aM;refine⟨.tuple #[],aW,σ,?_,.tuple _ _ .nil .nil,fb⟩;obtain⟨m,rfl⟩:∃m,len=m+1:=⟨len-1,by omega⟩;simp[Builtin.clear_,run_underlying bf,mF,dT]
theorem akO{t de:TypeId}{x bR v:Value}(j8:cq σ x bR)(U:(GA P t).f x H=some (v,ab)):
  ab=H/\∃aQ,(Builtin.len_ #[t] de #[bR]).run P w=.ok aQ w/\cq σ v aQ:=by
 unfold GA at U;cases bf:P.underlying t with
 | none=>simp_all
 | some jn=>
  rw[bf]at U;cases jn<;>simp only at U<;>first|(cases U;done)|skip
  case array n e=>cases U;exact⟨rfl,_,by simp[Builtin.len_,run_underlying bf];rfl,.int⟩
  case string=>
   cases j8<;>simp only at U<;>cases U;rename_i s _;refine⟨rfl,.int .i64 (Int.ofNat (gi s.data.toList)),?_,.int⟩;have:gi s.data.toList=s.size:=by simp_all[hB]
   simp_all[Builtin.len_,run_underlying,goInt]
  case slice e=>
   cases j8<;>simp only at U<;>cases U
   all_goals exact⟨rfl,_,by simp[Builtin.len_,run_underlying bf,goInt],.int⟩
theorem Wt:∀(l aA:List Value) (x:Int) (k:IntKind) (v:Value),bL σ l aA->Js x l k=some v->(List.foldlM Builtin.min2 (.int k x) aA).run P w=.ok v w/\cq σ v v
 | [],aA,x,k,v,hv,U=>by rw[hv.rE];cases U;exact⟨rfl,.int⟩
 | y::r,aA,x,k,v,hv,U=>by
  obtain⟨eW,dY,rfl,ba,gD⟩:=hv.nF;unfold Js at U;cases y<;>simp only at U<;>try cases U
  rename_i gd n;rw[ba.o6];have bg:=Wt r dY _ k v gD U;simp only[foldlM_cons,Sem.run_bind];have e:(Builtin.min2 (.int k x) (.int gd n)).run P w=.ok (.int k (cond (kx x n) x n)) w:=by
   simp only[Builtin.min2,Sem.run_pure]
   congr 2
   rw[lf]
   grind
  simp_all
theorem Wu:∀(l aA:List Value) (x:Int) (k:IntKind) (v:Value),bL σ l aA->Jt x l k=some v->(List.foldlM Builtin.max2 (.int k x) aA).run P w=.ok v w/\cq σ v v
 | [],aA,x,k,v,hv,U=>by rw[hv.rE];cases U;exact⟨rfl,.int⟩
 | y::r,aA,x,k,v,hv,U=>by
  obtain⟨eW,dY,rfl,ba,gD⟩:=hv.nF;unfold Jt at U;cases y<;>simp only at U<;>try cases U
  rename_i gd n;rw[ba.o6];have bg:=Wu r dY _ k v gD U;simp only[foldlM_cons,Sem.run_bind];have e:(Builtin.max2 (.int k x) (.int gd n)).run P w=.ok (.int k (cond (kx n x) x n)) w:=by
   simp only[Builtin.max2,Sem.run_pure]
   congr 2
   rw[lf]
   grind
  simp_all
theorem akP{x bR v:Value}(U:pG x=some v)(ao:cq σ x bR)(o:Oper)(op:Operand)(bM:o.op=.nilCheck op)(ρ:Operand->Value)(Co:ρ op=bR):
  (execOp ρ o).run P w=.ok (.value bR) w/\cq σ v bR:=by
 unfold pG at U;unfold execOp;rw[bM];simp only[Co];cases ao<;>simp only at U<;>cases U;rename_i id off c O1 s aJ _;exact⟨rfl,.ai _ _ _ _ _ aJ .nil⟩;rename_i f x bR y eW h1 h2 _;exact⟨rfl,.func _ _ _ _ _ h1 h2 .nil⟩;rename_i t u pa h1 _;exact⟨rfl,.iface _ _ _ h1 .nil⟩
end
end Go.Ab
namespace Go.Ab
open Go
section
variable{P:Program}{σ:c8}{B:Nat}{h:Nat->Option ax}{H:au}{w:World}
theorem J0{v aQ:Value}{y n:Nat}{aGL:BoundsCode}(hv:cq σ v aQ)(U:∃k m,v=.int k m/\0<=m/\m.toNat<=y/\n=m.toNat)(w:World):(Instr.sliceBound aQ y aGL).run P w=.ok n w:=by
 obtain⟨k,m,rfl,aJ,h1,rfl⟩:=U;rw[hv.o6]
 simp_all[Instr.sliceBound,asIntOf]
theorem Ka{len n:Nat}{v:Value}(U:oG len (some v)=some n):∃k m,v=.int k m/\0<=m/\m.toNat<=len/\n=m.toNat:=by
 unfold oG at U;simp only at U;cases v<;>simp only at U<;>try cases U
 rename_i k m;rw[lf,mE]at U
 grind
theorem akQ{len n:Nat}{v:Value}(U:qD len (some v)=some n):∃k m,v=.int k m/\0<=m/\m.toNat<=len/\n=m.toNat:=by have:oG len (some v)=some n:=U;exact Ka this
inductive yV (σ:c8):Option Value->Option Value->Prop
 | none:yV σ none none
 | some {v aQ:Value}:cq σ v aQ->yV σ (some v) (some aQ)
theorem O2{Ex:Bool}{len cap l hh:Nat}{oH:Bool}{fm Cp an fu hy Ey:Option Value}(s8:yV σ fm Cp)(Ez:yV σ an fu)(Cq:yV σ hy Ey)(j7:len<=cap)
  (h1:oG len an=some hh) (h2:qD hh fm=some l) (h3:sl hh an hy=some oH) (w:World):
  ∃m,(Instr.sliceBounds Ex len cap Cp fu Ey).run P w=.ok (l,hh,m) w/\l<=hh/\hh<=len/\(m=if oH then hh else cap):=by
 have GY:∀aGL,(match Cp with|some v=>Instr.sliceBound v hh aGL|none=>(pure 0:Sem Nat)).run P w=.ok l w/\l<=hh:=by
  intro aGL;cases s8 with
  | none=>simp[qD]at h2;subst h2;simp_all
  | some hv=>grind[akQ,J0]
 have Wv:hh<=len:=by
  cases an with
  | none=>simp_all[oG]
  | some v=>grind[Ka]
 cases Cq with
 | none=>
  simp[sl]at h3;subst h3;refine⟨cap,?_,(GY .sliceB).2,Wv,by simp⟩;cases Ez with
  | none=>simp[oG]at h1;subst h1;simp only[Instr.sliceBounds,Sem.run_bind,Sem.run_pure,Result.andThen_ok,Option.isSome_none,Bool.false_eq_true,if_false];have:=(GY .sliceB).1;cases s8<;>simp only at this⊢ <;>(try rw[this])<;>simp_all
  | some hv=>have ak:=Ka h1;obtain⟨k,m,e,bP,q2,cS⟩:=ak;have U:=J0 (P:=P) (y:=cap) (n:=hh) (aGL:=if Ex then .sliceAcap else .sliceAlen) hv ⟨k,m,e,bP,by omega,cS⟩ w;simp only[Instr.sliceBounds,Sem.run_bind,Sem.run_pure,Result.andThen_ok,Option.isSome_none,Bool.false_eq_true,if_false,U];have:=(GY .sliceB).1;cases s8<;>simp only at this⊢ <;>(try rw[this])<;>simp_all
 | some GZ=>
  rename_i nj aEY;unfold sl at h3;simp only at h3;cases nj<;>simp only at h3<;>try cases h3
  rename_i mk akR;cases Ez with
  | none=>cases h3
  | some hv=>
   simp only at h3;split at h3
   case h_2=>cases h3
   case h_1 G0=>
   split at h3
   case h_2=>cases h3
   case h_1 wF=>
   cases h3;rw[lf]at G0;have G0:=of_decide_eq_true G0;have wF:=eq_of_beq_eq_true wF;obtain⟨k,m,e,bP,q2,cS⟩:=Ka h1;refine⟨hh,?_,(GY .slice3C).2,Wv,by simp⟩;have r1:=J0 (P:=P) (y:=cap) (n:=hh) (aGL:=if Ex then .slice3Acap else .slice3Alen) GZ ⟨mk,akR,rfl,G0,by omega,wF.symm⟩ w;have r2:=J0 (P:=P) (y:=hh) (n:=hh) (aGL:=.slice3B) hv ⟨k,m,e,bP,by omega,cS⟩ w;simp only[Instr.sliceBounds,Sem.run_bind,r1,r2,Result.andThen_ok,Option.isSome_some,if_true];have:=(GY .slice3C).1;cases s8<;>simp only at this⊢ <;>(try rw[this])<;>simp_all
theorem Ww{size l hh m cap:Nat}{oH:Bool}{a:Option Addr}{cH:Option Addr}{v:Value}(bJ:0<size)(U:rC size a l hh oH=some v)(aD:l<=hh)
  (hm:m=if oH then hh else cap) (Ao:hh<=cap)
  (bn:match a with
   | none=>cH=none/\hh=0/\cap=0
   | some a=>∃c o s,σ a.block=some (c,o,s)/\cH.isSome=true/\((hh=0/\cap=0)\/(cH=some ⟨c,o+a.off,none⟩/\o+a.off+cap*size<=s))):
  cq σ v (.slice (if m=l then cH else cH.map (·.add (l*size))) (hh-l) (m-l)):=by
 cases a with
 | none=>
  obtain⟨rfl,rfl,rfl⟩:=bn;cases U;have:m=0:=by simp_all
  subst this;have:l=0:=by omega
  subst this;exact .lg .nil
 | some a=>
  obtain⟨id,off,cM⟩:=a;obtain⟨c,o,s,eo,akS,j6⟩:=bn;obtain⟨di,rfl⟩:=Option.isSome_iff_exists.1 akS;cases cM with
  | some _=>cases U
  | none=>
   cases U;have eo:σ id=some (c,o,s):=eo;have wI:∀x,(if m=l then(some di:Option Addr)else(some di).map (·.add x))=some (if m=l then di else di.add x):=fun x=>by grind
   rw[wI];cases oH with
   | true=>
    simp only[if_true]at hm;subst hm;refine .o5 id (off+l*size) (m-l) size c o s _ eo bJ ?_ .nil;by_cases Ar:m=l;omega;right;rcases j6 with⟨h1,h2⟩|⟨h1,h2⟩
    omega;rw[if_neg Ar];cases h1;refine⟨by grind[Es],?_⟩;have a7:l*size+(m-l)*size=m*size:=by rw[<- Nat.add_mul];simp_all
    have bt:=mul_le_mul_right size Ao
    grind
   | false=>
    simp only[Bool.false_eq_true,if_false]at hm;subst hm;refine .oL id (off+l*size) (hh-l) size (m-l) c o s _ eo bJ (by omega) ?_ .nil;by_cases Ar:m=l;omega;left;rcases j6 with⟨h1,h2⟩|⟨h1,h2⟩
    omega;rw[if_neg Ar];cases h1;refine⟨by grind[Es],?_⟩;have a7:l*size+(m-l)*size=m*size:=by rw[<- Nat.add_mul];grind
    grind
theorem akT{t:TypeId}{x bR v:Value}{fm Cp an fu hy Ey:Option Value}(al:ky σ B h w)(rG:(∃n e,P.underlying t=some (.array n e))->vi h H x)(ao:cq σ x bR)(s8:yV σ fm Cp)(Ez:yV σ an fu)(Cq:yV σ hy Ey)
  (U:(Ju P t).f x fm an hy H=some v):∃aQ,(Instr.sliceAt t bR Cp fu Ey).run P w=.ok aQ w/\cq σ v aQ:=by
 unfold Ju at U;cases bf:P.underlying t with
 | none=>simp_all
 | some jn=>
  rw[bf]at U;cases jn<;>simp only at U<;>first|(cases U;done)|skip
  case string=>
   unfold z8 at U;cases x<;>simp only at U<;>first|(cases U;done)|skip
   rename_i s;rw[ao.Am];cases hy with
   | some _=>cases U
   | none=>
    cases Cq;simp only at U;cases h1:oG (gi s.data.toList) an with
    | none=>simp_all
    | some hh=>
     rw[h1]at U;simp only at U;cases h2:qD hh fm with
     | none=>simp_all
     | some l=>
      rw[h2]at U;cases U;have hlen:gi s.data.toList=s.size:=by simp_all[hB]
      rw[hlen]at h1;obtain⟨m,b1,b2,gE,kJ⟩:=O2 (P:=P) (Ex:=false) s8 Ez .none (Nat.le_refl s.size) h1 h2 (oH:=false) rfl w;refine⟨.string (s.extract l hh),?_,?_⟩
      ·simp only[Instr.sliceAt,Instr.slice,Sem.run_bind,run_underlying bf,Result.andThen_ok,Option.isSome_none,Bool.false_eq_true,if_false,Sem.run_pure,b1]
      ·have:(⟨(qB (ry s.data.toList l) (hh-l)).toArray⟩:ByteArray)=s.extract l hh:=by
        apply ByteArray.ext;apply Array.ext'
        simp_all[ni,n1]
       rw[this];exact .string
  case slice e=>
   cases fc:hk P e with
   | none=>simp_all
   | some size=>
    rw[fc]at U;simp only at U;split at U
    case h_2=>cases U
    case h_1 bJ=>
    rw[qI]at bJ;have bJ:=of_decide_eq_true bJ;simp only[hI]at U;cases x<;>simp only at U<;>first|(cases U;done)|skip
    rename_i a len c;split at U
    case h_2=>cases U
    case h_1 hh h1=>
    split at U
    case h_2=>cases U
    case h_1 l h2=>
    split at U
    case h_2=>cases U
    case h_1 oH h3=>
    have dy:∀(cH:Option Addr) (cap:Nat) (gZ:Bool),bR=.slice cH len cap->len<=cap->(oH=true->gZ=true)->(gZ=true->oH=false->hh=cap)->rC size a l hh gZ=some v->
      (match a with
       | none=>cH=none/\len=0/\cap=0
       | some a=>∃c o s,σ a.block=some (c,o,s)/\cH.isSome=true/\((len=0/\cap=0)\/(cH=some ⟨c,o+a.off,none⟩/\o+a.off+cap*size<=s)))->
      ∃aQ,(Instr.sliceAt t bR Cp fu Ey).run P w=.ok aQ w/\cq σ v aQ:=by
     intro cH cap gZ c6 j7 EA aEZ sw j6;subst c6;obtain⟨m,b1,b2,gE,kJ⟩:=O2 (P:=P) (Ex:=true) s8 Ez Cq j7 h1 h2 h3 w;refine⟨_,?_,Ww (m:=m) (cap:=cap) (cH:=cH) bJ sw b2 ?_ (by omega) ?_⟩
     ·simp only[Instr.sliceAt,Instr.slice,Sem.run_bind,run_underlying bf,Result.andThen_ok,b1,o7 fc,Sem.run_pure]
     ·grind
     ·cases a with
      | none=>simp_all
      | some a=>grind
    cases ao
    case lg _=>
     have eX:Nat.beq 0 (2*size+1)=false:=by rfl
     rw[eX]at U;simp only[Bool.or_true,beq_refl]at U;exact dy none 0 oH rfl (Nat.le_refl _) id (fun a b=>by simp_all) U ⟨rfl,rfl,rfl⟩
    case o5 id off qc cc o s a eo su j6 _=>
     split at U
     case h_1 aB=>
      obtain rfl:qc=size:=by grind[eq_of_beq_eq_true]
      refine dy (some a) len (oH||Nat.beq hh len) rfl (Nat.le_refl _) (fun e=>by simp[e]) (fun a7 bt=>?_) U ⟨cc,o,s,eo,rfl,?_⟩
      ·simp_all
      simp_all
     case h_2 aB=>
      split at U
      case h_2=>cases U
      case h_1 xR=>
      simp only[Bool.or_eq_true]at xR
      grind[eq_of_beq_eq_true]
    case oL id off qc cap cc o s a eo su j7 j6 _=>
     split at U
     case h_1 aB=>grind[eq_of_beq_eq_true]
     case h_2 aB=>
      split at U
      case h_2=>cases U
      case h_1 xR=>
      simp only[Bool.or_eq_true]at xR;obtain rfl:qc=size:=by grind[eq_of_beq_eq_true]
      refine dy (some a) cap oH rfl j7 (fun e=>e) (fun a7 bt=>by simp_all) U ⟨cc,o,s,eo,rfl,?_⟩
      grind
  case array n e=>
   cases fc:hk P e with
   | none=>simp_all
   | some size=>
    rw[fc]at U;simp only at U;split at U
    case h_2=>cases U
    case h_1 bJ=>
    rw[qI]at bJ;have bJ:=of_decide_eq_true bJ;simp only[mK]at U;cases x<;>simp only at U<;>first|(cases U;done)|skip
    rename_i a;cases a with
    | none=>cases U
    | some a=>
     obtain⟨id,off,cM⟩:=a;obtain⟨rfl,c,o,s,rfl,eo⟩:=ao.GP;simp only at U;split at U
     case h_1=>cases U
     case h_2 b hg=>
     split at U
     case h_1=>cases U
     case h_2 An=>
     rw[mE,hB]at An;have An:=of_decide_eq_true An;split at U
     case h_2=>cases U
     case h_1 hh h1=>
     split at U
     case h_2=>cases U
     case h_1 l h2=>
     split at U
     case h_2=>cases U
     case h_1 oH h3=>
     obtain⟨bV,dK,cl,dD,de,eC,a7,bt,ei,h6,hR,_⟩:=al.ga id b (rG ⟨_,_,bf⟩ id rfl b hg);rw[eo]at a7;cases a7;obtain⟨m,b1,b2,gE,kJ⟩:=O2 (P:=P) (Ex:=false) s8 Ez Cq (Nat.le_refl n) h1 h2 h3 w;refine⟨_,?_,Ww (m:=m) (cap:=n) (cH:=some ⟨c,o+off,none⟩) bJ U b2 ?_ gE ⟨c,o,s,eo,rfl,.inr ⟨rfl,by grind⟩⟩⟩
     ·simp only[Instr.sliceAt,Instr.sureAddr,Sem.run_bind,run_underlying bf,Result.andThen_ok,Sem.run_pure,b1,o7 fc]
      grind
     grind[eq_of_beq_eq_true]
end
end Go.Ab
namespace Go.Ab
open Go
section
variable{P:Program}{σ:c8}{B:Nat}{h:Nat->Option ax}{H ab:au}{w:World}
theorem O3{o:Nat}{x bR v:Value}(ao:cq σ x bR)(U:bG o x=some v):∃a,bR=.pointer (some a)/\cq σ v (.pointer (some (a.add o))):=by
 unfold bG at U;cases x<;>simp only at U<;>first|(cases U;done)|skip
 rename_i a;cases a with
 | none=>cases U
 | some a=>obtain⟨id,off,cM⟩:=a;obtain⟨rfl,c,q,s,rfl,eo⟩:=ao.GP;cases U;refine⟨_,rfl,?_⟩;rw[Es,Nat.add_assoc];exact .ai id (off+o) c q s eo .nil
theorem akU{s:TypeId}{f:Nat}{x bR v:Value}(ao:cq σ x bR)(U:(Aa P s f).f x=some v)(w:World):∃aQ,(Instr.fieldAt s bR f).run P w=.ok aQ w/\cq σ v aQ:=by
 unfold Aa at U;split at U
 case h_2=>cases U
 case h_1 nB bf=>
 split at U
 case h_2=>cases U
 case h_1 dc hf=>
 split at U
 case h_1=>cases U
 case h_3=>cases U
 case h_2 n xP fc=>
 have aU:n≠0:=fun e=>xP e
 obtain⟨a,rfl,hv⟩:=O3 ao U
 simp_all[Instr.fieldAt,run_underlying,Instr.sureAddr,fieldPlace,o7]
theorem Wx{n:Nat}{x i v:Value}{size:Nat}(U:fa n size x i=some v):∃k j,i=.int k j/\0<=j/\j.toNat<n/\bG (j.toNat*size) x=some v:=by
 unfold fa at U;cases i<;>simp only at U<;>first|(cases U;done)|skip
 rename_i k j;rw[lf,qI]at U
 grind
theorem akV{t:TypeId}{x bR i vd v:Value}(ao:cq σ x bR)(an:cq σ i vd)(U:(Jw P t).f x i=some v)(w:World):∃aQ,(Instr.indexAt t bR vd).run P w=.ok aQ w/\cq σ v aQ:=by
 unfold Jw at U;cases bf:P.underlying t with
 | none=>simp_all
 | some jn=>
  rw[bf]at U;cases jn<;>simp only at U<;>first|(cases U;done)|skip
  case array n e=>
   cases fc:hk P e with
   | none=>simp_all
   | some size=>
    rw[fc]at U;obtain⟨k,j,rfl,aJ,h1,h2⟩:=Wx U;rw[an.o6];obtain⟨a,rfl,hv⟩:=O3 ao h2;refine⟨_,?_,hv⟩;simp only[Instr.indexAt,asIntOf,Sem.run_bind,Sem.run_pure,Result.andThen_ok,run_underlying bf,Instr.sureAddr]
    simp_all[o7]
  case slice e=>
   cases fc:hk P e with
   | none=>simp_all
   | some size=>
    rw[fc]at U;simp only[hz]at U;cases x<;>simp only at U<;>first|(cases U;done)|skip
    rename_i a n c;obtain⟨k,j,rfl,aJ,h1,h2⟩:=Wx U;rw[an.o6];have dy:∀(cH:Addr) (O4 vp:Nat),bR=.slice (some cH) O4 vp->O4=n->cq σ (.pointer a) (.pointer (some cH))->∃aQ,(Instr.indexAt t bR (.int k j)).run P w=.ok aQ w/\cq σ v aQ:=by
     intro cH O4 vp a7 bt bJ;subst a7;subst bt;obtain⟨cR,ei,hv⟩:=O3 bJ h2;cases ei;refine⟨_,?_,hv⟩;simp only[Instr.indexAt,asIntOf,Sem.run_bind,Sem.run_pure,Result.andThen_ok,run_underlying bf,Instr.sureAddr]
     simp_all[o7]
    cases ao
    case lg _=>omega
    case o5 id off qc cc o s a eo su j6 _=>
     rcases j6 with rfl|⟨rfl,_⟩
     ·omega
     ·exact dy _ _ _ rfl rfl (.ai _ _ _ _ _ eo .nil)
    case oL id off qc cap cc o s a eo su j7 j6 _=>
     rcases j6 with⟨rfl,_⟩|⟨rfl,_⟩
     ·exact dy _ _ _ rfl rfl (.ai _ _ _ _ _ eo .nil)
     omega
theorem Wy{t:TypeId}{aq:List Value}{bE:Array Value}{off:Nat}{v:Value}(aB:bL σ aq bE.toList)(U:(Eh P t).f aq off=some v)(w:World):
  ∃aQ,(part t bE off).run P w=.ok aQ w/\cq σ v aQ:=by
 refine GQ aB ?_ w
 grind[Eh,tU]
theorem akW{t:TypeId}{x bR i vd v:Value}(ao:cq σ x bR)(an:cq σ i vd)(U:(Jy P t).f x i=some v)(w:World):∃aQ,(Instr.index t bR vd).run P w=.ok aQ w/\cq σ v aQ:=by
 unfold Jy at U;cases bf:P.underlying t with
 | none=>simp_all
 | some jn=>
  rw[bf]at U;cases jn<;>simp only at U<;>first|(cases U;done)|skip
  case array n e=>
   cases fc:hk P e with
   | none=>simp_all
   | some size=>
    rw[fc]at U;simp only[Jx]at U;cases x<;>simp only at U<;>first|(cases U;done)|skip
    rename_i aq;cases i<;>simp only at U<;>first|(cases U;done)|skip
    rename_i k j;rw[an.o6];obtain⟨bE,rfl,pb⟩:=ao.Et;rw[lf,qI]at U;split at U
    case h_2=>cases U
    case h_1 aJ=>
    split at U
    case h_2=>cases U
    case h_1 h1=>
    have aJ:=of_decide_eq_true aJ;have h1:=of_decide_eq_true h1;obtain⟨aQ,dx,bp⟩:=Wy pb U w
    simp_all[Instr.index,asIntOf,run_underlying,o7]
  case string=>
   simp only[GC]at U;cases x<;>simp only at U<;>first|(cases U;done)|skip
   rename_i s;cases i<;>simp only at U<;>first|(cases U;done)|skip
   rename_i k j;rw[ao.Am,an.o6];rw[lf]at U;split at U
   case h_2=>cases U
   case h_1 aJ=>
   have aJ:=of_decide_eq_true aJ;rw[wB]at U;cases ak:s.data.toList[j.toNat]? with
   | none=>simp_all
   | some b=>
    rw[ak]at U;cases U;refine⟨.int .u8 b.toNat,?_,.int⟩;have:s[j.toNat]?=some b:=by
     have kj:s.data[j.toNat]?=some b:=by simp_all
     obtain⟨dw,G1⟩:=Array.getElem?_eq_some_iff.1 kj;rw[getElem?_pos s j.toNat dw];exact congrArg some G1
    simp_all[Instr.index,asIntOf,run_underlying]
theorem akX{t:TypeId}{f:Nat}{x bR v:Value}(ao:cq σ x bR)(U:(Jz P t f).f x=some v)(w:World):∃aQ,(Instr.field t bR f).run P w=.ok aQ w/\cq σ v aQ:=by
 unfold Jz at U;split at U
 case h_2=>cases U
 case h_1 nB bf=>
 split at U
 case h_2=>cases U
 case h_1 dc hf=>
 simp only at U;cases x<;>simp only at U<;>first|(cases U;done)|skip
 rename_i aq;obtain⟨bE,rfl,pb⟩:=ao.Et;obtain⟨aQ,dx,bp⟩:=Wy pb U w
 simp_all[Instr.field,run_underlying,asAgg]
theorem akY{t a:TypeId}{ok:Bool}{x bR v:Value}(ao:cq σ x bR)(U:(BZ P a ok).f x=some v)(w:World):∃aQ,(Instr.typeAssert bR t a ok).run P w=.ok aQ w/\cq σ v aQ:=by
 unfold BZ at U;have O5:∀(u pa:Value) (b:Bool),cq σ u pa->cq σ (.tuple #[u,.bool b]) (.tuple #[pa,.bool b]):=fun u pa b bf=>.tuple _ _ (bf.cons (.bool b .nil)) .nil
 cases bf:P.underlying a with
 | none=>simp_all
 | some jn=>
  have wD:(match jn with|.interface _=>true|_=>false)=false:=by cases jn<;>first|rfl|simp_all
  have jC:(if ok then(⟨ng a (iL P a)⟩:Jv)else⟨Ad a⟩).f x=some v:=by grind
  clear U;cases ok with
  | true=>
   simp only[if_true,ng]at jC;cases ao<;>simp only at jC<;>first|(cases jC;done)|skip
   case nilIface _=>
    cases dU:iL P a with
    | none=>simp_all
    | some z=>rw[dU]at jC;cases jC;obtain⟨mF,o8⟩:=uc dU w;refine⟨.tuple #[z,.bool false],?_,O5 _ _ _ (wC o8)⟩;cases jn<;>first|(cases wD;done)|(simp[Instr.typeAssert,run_underlying bf,mF])
   case iface u akZ O6 h1 _=>
    split at jC
    ·rename_i he;cases jC;have he:=eq_of_beq_eq_true he;subst he;refine⟨.tuple #[O6,.bool true],?_,O5 _ _ _ h1⟩;cases jn<;>first|(cases wD;done)|(simp[Instr.typeAssert,run_underlying bf])
    ·rename_i he;have he:u≠a:=fun e=>by simp_all
     cases dU:iL P a with
     | none=>simp_all
     | some z=>rw[dU]at jC;cases jC;obtain⟨mF,o8⟩:=uc dU w;refine⟨.tuple #[z,.bool false],?_,O5 _ _ _ (wC o8)⟩;cases jn<;>first|(cases wD;done)|(simp[Instr.typeAssert,run_underlying bf,mF,he])
  | false=>
   simp only[Bool.false_eq_true,if_false,Ad]at jC;cases ao<;>simp only at jC<;>first|(cases jC;done)|skip
   case iface u akZ O6 h1 _=>
    split at jC
    ·rename_i he;cases jC;have he:=eq_of_beq_eq_true he;subst he;refine⟨O6,?_,h1⟩;cases jn<;>first|(cases wD;done)|(simp[Instr.typeAssert,run_underlying bf])
    grind
theorem O7:∀(l aA:List Value) (m:List UInt8),bL σ l aA->wo l=some m->aA=l
 | [],aA,m,hv,_=>by rw[hv.rE]
 | y::r,aA,m,hv,hm=>by
  obtain⟨eW,dY,rfl,ba,gD⟩:=hv.nF;unfold wo at hm;cases y<;>simp only at hm<;>first|(cases hm;done)|skip
  rename_i k n;cases k<;>simp only at hm<;>first|(cases hm;done)|skip
  cases qF:wo r with
  | none=>rw[qF]at hm;cases hm
  | some dV=>rw[ba.o6,O7 r dY dV gD qF]
theorem Wz:∀(l:List Value) (m:List UInt8) (jR:ByteArray),wo l=some m->(forIn (m:=Sem) l jR (fun c r=>(match c with
   | .int .u8 n=>(pure (ForInStep.yield (r.push (UInt8.ofNat n.toNat))):Sem (ForInStep ByteArray))
   | _=>do stuck "bytesToString: byte expected";pure (ForInStep.yield r)))).run P w= .ok ⟨(jR.data.toList++m).toArray⟩ w
 | [],m,jR,hm=>by cases hm;simp
 | y::r,m,jR,hm=>by
  unfold wo at hm;cases y<;>simp only at hm<;>first|(cases hm;done)|skip
  rename_i k n;cases k<;>simp only at hm<;>first|(cases hm;done)|skip
  cases qF:wo r with
  | none=>rw[qF]at hm;cases hm
  | some dV=>
   rw[qF]at hm;simp at hm;subst hm;simp only[forIn_cons,Sem.run_bind,Sem.run_pure,Result.andThen_ok];have bg:=Wz r dV (jR.push (UInt8.ofNat n.toNat)) qF;rw[bg];have e:(jR.push (UInt8.ofNat n.toNat)).data.toList=jR.data.toList++[UInt8.ofNat n.toNat]:=by show(jR.data.push _).toList=_;simp
   rw[e];simp
theorem ak0(w:World)(dD:Array Value)(t:TypeId):World.freeze {w with heap:=w.heap.push (.cells dD t (0,0))} {block:=w.heap.size,off:=dD.size} 1=
  {w with heap:=w.heap.push (.cells dD t (dD.size,dD.size+1))}:=by
 unfold World.freeze;rw[if_neg (by omega)]
 congr 1
 grind
theorem ak1{u4 dst:TypeId}{x bR v:Value}(al:ky σ B h w)(b6:B<=w.heap.size)(fp:∀i,H.next<=i->i<ab.next->σ i=none)(rG:(∃e,P.underlying u4=some (.slice e))->vi h H x)(ao:cq σ x bR)(U:(BV P u4 dst).f x H=some (v,ab)):
  ha P B (convert u4 dst bR) w σ h H v ab:=by
 unfold BV at U;cases aO:P.underlying dst with
 | none=>simp_all
 | some eN=>
  rw[aO]at U;cases eN<;>simp only at U<;>first|(cases U;done)|skip
  case int k=>
   split at U
   case h_2=>cases U
   case h_1 aE0 qe=>
   simp only at U;cases x<;>simp only at U<;>first|(cases U;done)|skip
   rename_i gd n;cases U;rw[ao.o6];refine ha.pure al ⟨.int k (iN k n),?_,.int⟩;rw[vg];simp only[convert,Sem.run_bind,run_underlying qe,run_underlying aO,Result.andThen_ok];rfl
  case string=>
   cases qe:P.underlying u4 with
   | none=>simp_all
   | some aS=>
    rw[qe]at U;cases aS<;>simp only at U<;>first|(cases U;done)|skip
    case string=>
     cases x<;>simp only at U<;>first|(cases U;done)|skip
     cases U;rw[ao.Am];refine ha.pure al ⟨_,?_,.string⟩
     simp_all[convert,run_underlying]
    case slice e=>
     split at U
     case isFalse=>cases U
     case isTrue yW=>
     have EB:P.underlying e=some (.int .u8):=by grind[Ed]
     simp only[tW]at U;have step:∀(a:Addr) (len cap:Nat) (l:List Value) (m:List UInt8),bR=.slice (some a) len cap->(loadCells a len).run P w=.ok l.toArray w->wo l=some m->
       (convert u4 dst bR).run P w=.ok (.string ⟨m.toArray⟩) w:=by
      intro a len cap l m a7 bt ei;subst a7;have hS:=Wz (P:=P) (w:=w) l m ByteArray.empty ei;simp only[convert,Sem.run_bind,run_underlying qe,run_underlying aO,Result.andThen_ok,run_underlying EB,Conv.bytesToString,bt];rw[<- Array.forIn_toList];exact congrArg (fun r:Result ByteArray=>r.andThen fun a aW=>Sem.run P (pure (Value.string a)) aW) hS
     cases ao<;>simp only at U<;>first|(cases U;done)|skip
     case lg _=>cases U;refine ha.pure al ⟨.string ⟨#[]⟩,?_,.string⟩;simp only[convert,Sem.run_bind,run_underlying qe,run_underlying aO,Result.andThen_ok,run_underlying EB,Conv.bytesToString,Sem.run_pure];rfl
     case o5 id off len qc c o s a eo su j6 _=>
      split at U
      case isTrue aJ=>cases U;have aJ:=eq_of_beq_eq_true aJ;subst aJ;exact ha.pure al ⟨_,step a 0 0 [] [] rfl (by rfl) rfl,.string⟩
      case isFalse aJ=>
       have aJ:len≠0:=fun e=>by simp_all
       obtain⟨rfl,_⟩:=j6.resolve_left aJ;split at U
       case h_2=>cases U
       case h_1 l aD=>
       split at U
       case h_2=>cases U
       case h_1 m hm=>
       cases U;obtain⟨aA,bP,q2,cS⟩:=Cj (P:=P) al (rG ⟨_,qe⟩ id rfl) aD eo;rw[O7 _ _ _ q2 hm]at bP;exact ha.pure al ⟨_,step _ _ _ l m rfl bP hm,.string⟩
     case oL id off len qc cap c o s a eo su j7 j6 _=>
      split at U
      case isTrue aJ=>cases U;have aJ:=eq_of_beq_eq_true aJ;subst aJ;exact ha.pure al ⟨_,step a 0 cap [] [] rfl (by rfl) rfl,.string⟩
      case isFalse aJ=>
       have aJ:len≠0:=fun e=>by simp_all
       obtain rfl:a=⟨c,o+off,none⟩:=by simp_all
       split at U
       case h_2=>cases U
       case h_1 l aD=>
       split at U
       case h_2=>cases U
       case h_1 m hm=>
       cases U;obtain⟨aA,bP,q2,cS⟩:=Cj (P:=P) al (rG ⟨_,qe⟩ id rfl) aD eo;rw[O7 _ _ _ q2 hm]at bP;exact ha.pure al ⟨_,step _ _ _ l m rfl bP hm,.string⟩
  case slice e=>
   cases qe:P.underlying u4 with
   | none=>simp_all
   | some aS=>
    rw[qe]at U;cases aS<;>simp only at U<;>first|(cases U;done)|skip
    case string=>
     split at U
     case isFalse=>cases U
     case isTrue yW=>
     have EB:P.underlying e=some (.int .u8):=by grind[Ed]
     simp only[BU]at U;cases x<;>simp only at U<;>first|(cases U;done)|skip
     rename_i s;rw[ao.Am]
     let cap:=(Question.appendCap s.size 0 e).cut (w.tape w.drawn (.appendCap s.size 0 e))
     let pL:List Value:=s.data.toList.map xD
     let ef:List Value:=List.replicate (cap-s.size) (.int .u8 0)
     have Ao:s.size<=cap:=by show s.size<=s.size+_;omega
     have hlen:pL.length+ef.length=cap:=by
      have:pL.length=s.size:=by simp[pL]
      grind
     obtain⟨τ,id,rfl,ma,hg⟩:=Ew (bE:=pL) (ef:=ef) al b6 fp (bL.VX .u8 (fun b:UInt8=>((b.toNat:Nat):Int)) s.data.toList) e (cap,cap+1) ⟨by simp,by grind⟩ (w.drawn+1) U;refine⟨.slice (some ⟨w.heap.size,0,none⟩) s.size cap,_,τ,?_,?_,hg⟩
     ·have a7:(s.data.map fun b=>Value.int .u8 b.toNat)++Array.replicate (cap-s.size) (.int .u8 0)=(pL++ef).toArray:=by grind[xD]
      have fc:(pL++ef).toArray.size=cap:=by simp_all
      have bY:(Question.appendCap s.size 0 e).forced=false:=rfl;simp only[convert,Sem.run_bind,run_underlying qe,run_underlying aO,Result.andThen_ok,run_underlying EB,Conv.stringToBytes,run_choose,bY,Bool.false_eq_true,if_false,Sem.run_pure,newRow,run_newObj];have O8:(s.data.map fun b=>Value.int .u8 b.toNat)++Array.replicate ((Question.appendCap s.size 0 e).cut (w.tape w.drawn (.appendCap s.size 0 e))-s.size) (.int .u8 0)=(pL++ef).toArray:=a7;rw[O8];have pM:∀W:World,W.heap=w.heap.push (.cells (pL++ef).toArray e (0,0))->W.shape? w.heap.size=some (e,cap):=by simp_all[World.shape?]
      simp only[markStringish,Sem.run_bind,run_shape,Result.andThen_ok];rw[pM _ rfl];simp only[run_freeze,Result.andThen_ok];have hf:=ak0 {w with drawn:=w.drawn+1} (pL++ef).toArray e
      grind
     ·have bt:gi s.data.toList=s.size:=by simp_all[hB]
      rw[bt];rw[hlen]at ma;exact Ev (size:=1) ma (by omega) Ao (by omega)
    case slice qL=>
     split at U
     case isFalse=>cases U
     case isTrue yW=>
     rw[Bool.and_eq_true]at yW;obtain⟨yW,yS⟩:=yW;have yS:u4=dst:=eq_of_beq_eq_true yS;have EB:P.underlying e=some (.int .u8):=by grind[Ed]
     simp only[u3]at U;split at U
     case h_2=>cases U
     case h_1 O9 len cc=>
     split at U
     case h_1=>cases U
     case h_2 id off cM=>
     split at U
     case h_1=>cases U
     case h_2=>
     split at U
     case h_1=>cases U
     case h_2 tc=>
     split at U
     case h_2=>cases U
     case h_1 b hg=>
     split at U
     case h_2=>cases U
     case h_1 aE1=>
     cases U;have aM:b.wr=true:=by simp_all[au.o2]
     have hlen:len≠0:=fun e=>by simp_all
     have uf:=ao;have Pa:∃c o s cap,bR=.slice (some ⟨c,o+off,none⟩) len cap/\σ id=some (c,o,s):=by
      cases ao
      case o5=>simp_all
      simp_all
     obtain⟨c,o,s,cap,rfl,eo⟩:=Pa;have ak:h id=some b:=rG ⟨_,qe⟩ id rfl b hg;obtain⟨bV,dK,cl,dD,de,eC,a7,bt,_⟩:=al.ga id b ak;rw[eo]at a7;cases a7;have Kb:=aka (n:=H.next) al id b ak aM c o s dD de eC eo bt;refine⟨_,w.freeze {block:=c,off:=dD.size} 1,σ,?_,uf,?_⟩
     ·have ak2:w.shape? c=some (de,dD.size):=by simp_all[World.shape?]
      subst yS;rw[aO]at qe;cases qe;simp only[convert,Sem.run_bind,run_underlying aO,Result.andThen_ok,run_underlying EB,beq_self_eq_true,markStringish,run_shape,ak2,run_freeze,Sem.run_pure]
     simp_all[Cc]
end
end Go.Ab
