/- texts of the pv, gd behind the oq -/
import Derived.Calls
import Derived.WalkKit
import Derived.ChangeKeysEq
set_option linter.unusedVariables false
set_option linter.unusedSimpArgs false
set_option linter.unusedSectionVars false
namespace Go.Ab
open Go
noncomputable section
inductive Tr (α:Type) where
 | nil
 | k6 (l:Tr α) (v:Option α) (r:Tr α)
namespace Tr
variable{α:Type}
def get(t:Tr α):Nat->Option α:=
 Tr.rec (motive:=fun _=>Nat->Option α) (fun _=>Option.none)
  (fun _ v _ Cx Cy n=>Nat.rec (motive:=fun _=>Option α) v (fun k _=>cond (Nat.beq (Nat.mod k 2) 0) (Cx (Nat.div k 2)) (Cy (Nat.div k 2))) n) t
def set(t:Tr α):Nat->Option α->Tr α:=
 Tr.rec (motive:=fun _=>Nat->Option α->Tr α) (fun n v=>Nat.rec (motive:=fun _=>Tr α) (.k6 .nil v .nil) (fun _ _=>.nil) n)
  (fun l x r Cx Cy n v=>Nat.rec (motive:=fun _=>Tr α) (.k6 l v r) (fun k _=>cond (Nat.beq (Nat.mod k 2) 0) (.k6 (Cx (Nat.div k 2) v) x r) (.k6 l x (Cy (Nat.div k 2) v))) n) t
end Tr
def pw{α:Type}(l:List α):Nat->List α:=
 List.rec (motive:=fun _=>Nat->List α) (fun _=>[]) (fun x _ bd n=>Nat.rec (motive:=fun _=>List α) [] (fun k _=>x::bd k) n) l
def p3{α:Type}(l:List α):Nat->List α:=
 List.rec (motive:=fun _=>Nat->List α) (fun _=>[]) (fun x r bd n=>Nat.rec (motive:=fun _=>List α) (x::r) (fun k _=>bd k) n) l
def hT{α:Type}(l m:List α):List α:=List.rec (motive:=fun _=>List α) m (fun x _ bd=>x::bd) l
def fE{α:Type}(l:List α):Nat:=List.rec (motive:=fun _=>Nat->Nat) (fun n=>n) (fun _ _ bd n=>bd (Nat.succ n)) l 0
def ot{α:Type}(l:List α):Nat->Option α:=
 List.rec (motive:=fun _=>Nat->Option α) (fun _=>none) (fun x _ bd n=>Nat.rec (motive:=fun _=>Option α) (some x) (fun k _=>bd k) n) l
def jT{α:Type}(p:α->Bool)(l:List α):Bool:=List.rec (motive:=fun _=>Bool) true (fun x _ bd=>cond (p x) bd false) l
def kf(a b:Int):Bool:=Int.rec (motive:=fun _=>Bool) (fun m=>Int.rec (motive:=fun _=>Bool) (fun n=>Nat.ble m n) (fun _=>false) b) (fun m=>Int.rec (motive:=fun _=>Bool) (fun _=>true) (fun n=>Nat.ble n m) b) a
def oW(a b:Int):Bool:=Int.rec (motive:=fun _=>Bool) (fun m=>Int.rec (motive:=fun _=>Bool) (fun n=>Nat.beq m n) (fun _=>false) b) (fun m=>Int.rec (motive:=fun _=>Bool) (fun _=>false) (fun n=>Nat.beq n m) b) a
def b3(l:List Value):Nat->Value:=
 List.rec (motive:=fun _=>Nat->Value) (fun _=>undef) (fun x _ bd n=>Nat.rec (motive:=fun _=>Value) x (fun k _=>bd k) n) l
def gV(l:List Value):Nat->Value->List Value:=
 List.rec (motive:=fun _=>Nat->Value->List Value) (fun _ _=>[]) (fun x r bd n v=>Nat.rec (motive:=fun _=>List Value) (v::r) (fun k _=>x::bd k v) n) l
def tJ{α:Type}(p:α->α->Bool)(l:List α):List α->Bool:=
 List.rec (motive:=fun _=>List α->Bool) (fun m=>List.rec (motive:=fun _=>Bool) true (fun _ _ _=>false) m)
  (fun x _ bd m=>List.rec (motive:=fun _=>Bool) false (fun y r _=>cond (p x y) (bd r) false) m) l
def Ag(x:Value)(o:Option (List Value)):Option (List Value):=match o with
 | some l=>some (x::l)
 | none=>none
def Mv(n:Nat):List Value->List Value:=
 Nat.rec (motive:=fun _=>List Value->List Value) (fun l=>l) (fun _ bd l=>List.rec (motive:=fun _=>List Value) [] (fun _ r _=>bd r) l) n
def Mw(n:Nat):List Value->Option (List Value):=
 Nat.rec (motive:=fun _=>List Value->Option (List Value)) (fun _=>some []) (fun _ bd l=>List.rec (motive:=fun _=>Option (List Value)) none (fun x r _=>Ag x (bd r)) l) n
def Mx(l:List Value)(o n:Nat):Option (List Value):=Mw n (Mv o l)
def EZ(bV:List Value):List Value->Option (List Value):=
 List.rec (motive:=fun _=>List Value->Option (List Value)) (fun l=>some l) (fun v _ bd l=>List.rec (motive:=fun _=>Option (List Value)) none (fun _ r _=>Ag v (bd r)) l) bV
def T2(k:List Value->Option (List Value))(n:Nat):List Value->Option (List Value):=
 Nat.rec (motive:=fun _=>List Value->Option (List Value)) k (fun _ bd l=>List.rec (motive:=fun _=>Option (List Value)) none (fun x r _=>Ag x (bd r)) l) n
def My(l:List Value)(o:Nat)(bV:List Value):Option (List Value):=T2 (EZ bV) o l
def tK:IntKind->IntKind->Bool
 | .i64,.i64=>true|.u64,.u64=>true|.u8,.u8=>true|.u32,.u32=>true
 | .i8,.i8=>true|.i16,.i16=>true|.i32,.i32=>true|.u16,.u16=>true
 | _,_=>false
structure az where
 cells:List Value
 wr:Bool
inductive mW where
 | normal|exit (id:Nat)|ret
inductive uY where
 | ready|busy|over (e:mW)
structure hk where
 T:List Value
 bz:List Tmp
 cX:Code
 body:Code
 st:uY
def mX(l:hk):Bool:=match l.st with
 | .over e=>match e with|.normal=>true|_=>false
 | _=>false
def jU(T:List Value):hk:=⟨T,[],.skip,.skip,.over .normal⟩
def eH(l:List (Nat×hk))(i:Nat):Option hk:=List.rec (motive:=fun _=>Option hk) none (fun x _ bd=>cond (Nat.beq x.1 i) (some x.2) bd) l
def lJ(l:List (Nat×hk))(i:Nat)(v:hk):List (Nat×hk):=List.rec (motive:=fun _=>List (Nat×hk)) [] (fun x r bd=>cond (Nat.beq x.1 i) ((i,v)::r) (x::bd)) l
structure au where
 t:Tr az
 next:Nat
 dy:Nat
 dO:List (Nat×hk)
def au.get(H:au)(i:Nat):Option az:=H.t.get i
def au.set(H:au)(i:Nat)(b:Option az):au:={H with t:=H.t.set i b}
def au.ou(H:au)(i:Nat)(b:az):Bool:=b.wr&&Nat.ble H.dy i
def au.cN(H:au)(ar:List Value):Option (Nat×au):=
 some (H.next,⟨H.t.set H.next (some ⟨ar,true⟩),Nat.succ H.next,H.dy,H.dO⟩)
def eP:Value->Bool
 | .agg _=>false
 | .tuple _=>false
 | _=>true
def Cz:Value->Bool
 | .bool _=>true
 | .int _ _=>true
 | .string _=>true
 | .pointer a=>match a with|none=>true|some _=>false
 | .slice a n c=>match a with|none=>Nat.beq n 0&&Nat.beq c 0|some _=>false
 | .map r=>match r with|none=>true|some _=>false
 | .nilFunc=>true
 | .nilIface=>true
 | .func fn first cap=>match fn with|.func _=>Nat.beq (fE first.toList) 0&&Nat.beq (fE cap.toList) 0|_=>false
 | _=>false
def CA:Value->Bool
 | .agg ar=>jT Cz ar.toList
 | .tuple bV=>Nat.beq (fE bV.toList) 0
 | v=>Cz v
def dp(v:Value):List Value:=match v with|.agg ar=>ar.toList|v=>[v]
section
variable(P:Program)
def p4(t:TypeId):Option Bool:=match P.underlying t with|some (.struct _)=>some true|some (.array _ _)=>some true|some _=>some false|none=>none
def gM(t:TypeId):Option Nat:=(P.info? t).map (·.size)
def h3(t:TypeId):Option Value:=match P.info? t with
 | some i=>match i.zero with
  | some z=>cond (CA z) (some z) none
  | none=>none
 | none=>none
def xe(l:List Value)(n:Nat):Option (List Value):=match Nat.beq (fE l) n with|true=>some l|false=>none
def rZ(H:au)(id off n:Nat):Option (List Value):=
 match H.get id with
 | some b=>Mx b.cells off n
 | none=>none
def uZ(H:au)(id off:Nat)(bV:List Value):Option au:=
 match H.get id with
 | some b=>
  match H.ou id b&&jT eP bV with
  | true=>match My b.cells off bV with
   | some ar=>some (H.set id (some ⟨ar,b.wr⟩))
   | none=>none
  | false=>none
 | none=>none
def u0(iX:Nat->Option (Nat×Nat)):List Value->List (Nat×Value)->Option (List Value)
 | cells,[]=>some cells
 | cells,(i,v)::dP=>
  match iX i with
  | none=>none
  | some (off,size)=>
   let ar:=dp v
   match Nat.beq (fE ar) size&&Nat.ble (off+fE ar) (fE cells)with|true=>u0 iX (hT (pw cells off) (hT ar (p3 cells (off+fE ar)))) dP|false=>none
def HX(mY:List Field)(i:Nat):Option (Nat×Nat):=match ot mY i with
 | some f=>match gM P f.type with
  | some n=>some (f.offset,n)
  | none=>none
 | none=>none
def T3(l:Option (List Value)):Option Value:=match l with
 | some l=>some (.agg l.toArray)
 | none=>none
structure Mz where f:List (Nat×Value)->Option Value
def di(t:TypeId):Mz:=
 match h3 P t with
 | some z=>match P.underlying t with
  | some (.struct mY)=>match jT (fun f=>(gM P f.type).isSome) mY.toList with
   | true=>⟨fun hD=>T3 (u0 (HX P mY.toList) (dp z) hD)⟩
   | false=>⟨fun _=>none⟩
  | some (.array _ e)=>match gM P e with
   | some size=>⟨fun hD=>T3 (u0 (fun i=>some (i*size,size)) (dp z) hD)⟩
   | none=>⟨fun _=>none⟩
  | _=>⟨fun _=>none⟩
 | none=>⟨fun _=>none⟩
def fS:Nat->List Value->List Value
 | 0,_=>[]
 | n+1,l=>hT l (fS n l)
def sS(t:TypeId)(ar:List Value)(off:Nat):Option Value:=
 match p4 P t,gM P t with
 | some true,some n=>some (.agg (pw (p3 ar off) n).toArray)
 | some false,some _=>ot ar off
 | _,_=>none
def eqFields(sT:TypeId->Value->Value->Option Bool)(aj bg:List Value):List Field->Option Bool
 | []=>some true
 | f::bR=>
  if f.name== "_" then none else
  match sS P f.type aj f.offset,sS P f.type bg f.offset with
  | some a,some b=>match sT f.type a b with
   | some true=>eqFields sT aj bg bR
   | r=>r
  | _,_=>none
def CB(sT:Value->Value->Option Bool)(e:TypeId)(n:Nat)(aj bg:List Value):Nat->Nat->Option Bool
 | 0,_=>some true
 | k+1,i=>
  match sS P e aj (i*n),sS P e bg (i*n)with
  | some a,some b=>match sT a b with
   | some true=>CB sT e n aj bg k (i+1)
   | r=>r
  | _,_=>none
def nZ:Nat->TypeId->Value->Value->Option Bool
 | 0,_,_,_=>none
 | d+1,t,x,y=>
  match P.underlying t,x,y with
  | some .bool,.bool a,.bool b=>some (a==b)
  | some (.int _),.int k a,.int fh b=>(match tK k fh with|true=>some (oW a b)|false=>none)
  | some .string,.string a,.string b=>some (a.data.toList==b.data.toList)
  | some (.pointer _),.pointer none,.pointer b=>some b.isNone
  | some (.pointer _),.pointer (some _),.pointer none=>some false
  | some (.interface _),.nilIface,.nilIface=>some true
  | some (.interface _),.nilIface,.iface _ _=>some false
  | some (.interface _),.iface _ _,.nilIface=>some false
  | some (.slice _),.slice none _ _,.slice b _ _=>some b.isNone
  | some (.slice _),.slice (some _) _ _,.slice none _ _=>some false
  | some (.func _ _ _),.nilFunc,.nilFunc=>some true
  | some (.func _ _ _),.nilFunc,.func _ _ _=>some false
  | some (.func _ _ _),.func _ _ _,.nilFunc=>some false
  | some (.struct mY),.agg aj,.agg bg=>if P.stoodInHeld t then none else eqFields P (nZ d) aj.toList bg.toList mY.toList
  | some (.array len e),.agg aj,.agg bg=>match gM P e with
   | some n=>CB P (nZ d e) e n aj.toList bg.toList len 0
   | none=>none
  | _,_,_=>none
def tL(oX h4:Nat)(n:Int):Int:=
 match n with
 | .ofNat m=>match Nat.blt m oX with
  | true=>.ofNat m
  | false=>cond (Nat.blt (m%h4) oX) (.ofNat (m%h4)) (.negSucc (h4-1-m%h4))
 | .negSucc m=>match Nat.blt m oX with
  | true=>.negSucc m
  | false=>cond (Nat.blt (m%h4) oX) (.negSucc (m%h4)) (.ofNat (h4-1-m%h4))
def r0(h4:Nat)(n:Int):Int:=
 match n with
 | .ofNat m=>.ofNat (m%h4)
 | .negSucc m=>.ofNat (h4-1-m%h4)
def iY(k:IntKind)(n:Int):Int:=
 match k with
 | .i64=>tL 9223372036854775808 18446744073709551616 n
 | .u64=>r0 18446744073709551616 n
 | .u8=>r0 256 n
 | .u32=>r0 4294967296 n
 | .u16=>r0 65536 n
 | .i32=>tL 2147483648 4294967296 n
 | .i8=>tL 128 256 n
 | .i16=>tL 32768 65536 n
def ov(k:IntKind)(n:Int):Nat:=
 match k with
 | .i64=>(r0 18446744073709551616 n).toNat
 | .u64=>(r0 18446744073709551616 n).toNat
 | .u8=>(r0 256 n).toNat
 | .u32=>(r0 4294967296 n).toNat
 | .u16=>(r0 65536 n).toNat
 | .i32=>(r0 4294967296 n).toNat
 | .i8=>(r0 256 n).toNat
 | .i16=>(r0 65536 n).toNat
def HY(op:BinOp):IntKind->Int->Int->Option Value:=
 match op with
 | .add=>fun k a b=>some (.int k (iY k (a+b)))
 | .sub=>fun k a b=>some (.int k (iY k (a-b)))
 | .mul=>fun k a b=>some (.int k (iY k (a*b)))
 | .quo=>fun k a b=>match oW b 0 with|true=>none|false=>some (.int k (iY k (a.tdiv b)))
 | .rem=>fun k a b=>match oW b 0 with|true=>none|false=>some (.int k (a.tmod b))
 | .and=>fun k a b=>some (.int k (iY k (Nat.land (ov k a) (ov k b))))
 | .or=>fun k a b=>some (.int k (iY k (Nat.lor (ov k a) (ov k b))))
 | .xor=>fun k a b=>some (.int k (iY k (Nat.xor (ov k a) (ov k b))))
 | .eql=>fun _ a b=>some (.bool (oW a b))
 | .neq=>fun _ a b=>some (.bool (not (oW a b)))
 | .lss=>fun _ a b=>some (.bool (not (kf b a)))
 | .leq=>fun _ a b=>some (.bool (kf a b))
 | .gtr=>fun _ a b=>some (.bool (not (kf a b)))
 | .geq=>fun _ a b=>some (.bool (kf b a))
 | _=>fun _ _ _=>none
def MA(op:BinOp):List UInt8->List UInt8->Option Value:=
 match op with
 | .add=>fun l r=>if Nat.ble (fE l+fE r) 9223372036854775807 then some (.string ⟨(hT l r).toArray⟩)else none
 | .eql=>fun l r=>some (.bool (l==r))
 | .neq=>fun l r=>some (.bool !(l==r))
 | .lss=>fun l r=>some (.bool (Op.bytesLess l r))
 | .leq=>fun l r=>some (.bool (Op.bytesLess l r||l==r))
 | .gtr=>fun l r=>some (.bool !(Op.bytesLess l r||l==r))
 | .geq=>fun l r=>some (.bool !(Op.bytesLess l r))
 | _=>fun _ _=>none
def u1:Operand->Bool
 | .const _=>true
 | _=>false
def u2(t:TypeId)(c:Bool):Value->Value->Bool
 | .nilIface,.nilIface=>c
 | .agg _,.agg _=>!P.eqGuardType P.depth t
 | _,_=>true
def MB(op:BinOp)(t:TypeId)(c:Bool):Value->Value->Option Value:=
 match op with
 | .eql=>fun a b=>if u2 P t c a b then(nZ P 100 t a b).map .bool else none
 | .neq=>fun a b=>if u2 P t c a b then(nZ P 100 t a b).map fun r=>.bool !r else none
 | _=>fun _ _=>none
def Ah(left:Bool)(k:IntKind)(a:Int)(b:Int):Option Value:=
 if b<0 then none else
 if left then some (.int k (iY k (a*((2^(min b.toNat k.bits):Nat):Int))))else some (.int k (a.fdiv ((2^(min b.toNat k.bits):Nat):Int)))
def CC:BinOp->Option Bool
 | .shl=>some true
 | .shr=>some false
 | _=>none
structure E0 where f:Value->Value->Option Value
def ay(op:BinOp)(t:TypeId)(c:Bool):E0:=
 match CC op with
 | some l=>⟨fun a b=>match a with
  | .int k a=>match b with|.int _ b=>Ah l k a b|_=>none
  | _=>none⟩
 | none=>⟨fun a b=>match a with
  | .int k a=>match b with|.int fh b=>(match tK k fh with|true=>HY op k a b|false=>none)|_=>none
  | .string a=>match b with|.string b=>MA op a.data.toList b.data.toList|_=>none
  | .float _ _=>none
  | .complex _ _ _=>none
  | a=>MB P op t c a b⟩
def hE(op:UnOp)(x:Value):Option Value:=
 match x with
 | .int k n=>match op with
  | .neg=>some (.int k (iY k (0-n)))
  | .xor=>some (.int k (iY k (Nat.xor (ov k (if k.signed then-1 else k.max)) (ov k n))))
  | _=>none
 | .bool b=>match op with
  | .not=>some (.bool !b)
  | _=>none
 | _=>none
def u3:List Value->Option (List UInt8)
 | []=>some []
 | v::r=>match v with
  | .int k n=>match k with
   | .u8=>(u3 r).map (UInt8.ofNat n.toNat::·)
   | _=>none
  | _=>none
def v7(b:UInt8):Value:=.int .u8 b.toNat
abbrev R:=Option (Value×au)
def gf(H:au):Option Value->R
 | some v=>some (v,H)
 | none=>none
def xf(ar:List Value)(H:au):R:=match H.cN ar with
 | some (id,H)=>some (.pointer (some ⟨id,0,none⟩),H)
 | none=>none
def l1(ar:List Value)(len c:Nat)(H:au):R:=match H.cN ar with
 | some (id,H)=>some (.slice (some ⟨id,0,none⟩) len c,H)
 | none=>none
structure MC where f:List (Nat×Value)->au->R
def HZ(size len:Nat)(z:List Value)(hD:List (Nat×Value))(H:au):R:=
 match u0 (fun i=>some (i*size,size)) (fS len z) hD with
 | some ar=>l1 ar len (2*size+1) H
 | none=>none
def eY(t:TypeId)(len:Nat):MC:=
 match P.underlying t with
 | some (.slice e)=>match gM P e with
  | some size=>match h3 P e with
   | some z=>match Nat.ble (len*size) 16777216&&(Nat.blt 0 size&&Nat.beq (fE (dp z)) size)with
    | true=>⟨HZ size len (dp z)⟩
    | false=>⟨fun _ _=>none⟩
   | none=>⟨fun _ _=>none⟩
  | none=>⟨fun _ _=>none⟩
 | _=>⟨fun _ _=>none⟩
structure Ai where f:Value->au->R
def Aj(x:Value)(H:au):R:=match x with
 | .string s=>l1 (s.data.toList.map v7) (fE s.data.toList) 2 H
 | _=>none
def v8(x:Value)(H:au):R:=match x with
 | .slice a len _=>match a with
  | none=>some (.string ⟨#[]⟩,H)
  | some ⟨id,off,cF⟩=>match cF with
   | some _=>none
   | none=>if Nat.beq len 0 then some (.string ⟨#[]⟩,H)else match rZ H id off len with
    | some l=>match u3 l with
     | some l=>some (.string ⟨l.toArray⟩,H)
     | none=>none
    | none=>none
 | _=>none
def wa(x:Value)(H:au):R:=match x with
 | .slice a len _=>match a with
  | none=>none
  | some ⟨id,_,cF⟩=>match cF with
   | some _=>none
   | none=>match Nat.beq len 0 with
    | true=>none
    | false=>match H.get id with
     | some b=>match H.ou id b with
      | true=>some (x,H)
      | false=>none
     | none=>none
 | _=>none
def CD(e:TypeId):Bool:=match P.underlying e with
 | some (.int .u8)=>true
 | _=>false
def Ak(tM dst:TypeId):Ai:=
 match P.underlying dst with
 | some (.int k)=>match P.underlying tM with
  | some (.int _)=>⟨fun x H=>match x with|.int _ n=>some (.int k (iY k n),H)|_=>none⟩
  | _=>⟨fun _ _=>none⟩
 | some .string=>match P.underlying tM with
  | some .string=>⟨fun x H=>match x with|.string s=>some (.string s,H)|_=>none⟩
  | some (.slice e)=>if CD P e then⟨v8⟩else⟨fun _ _=>none⟩
  | _=>⟨fun _ _=>none⟩
 | some (.slice e)=>match P.underlying tM with
  | some .string=>if CD P e then⟨Aj⟩else⟨fun _ _=>none⟩
  | some (.slice _)=>if CD P e&&Nat.beq tM dst then⟨wa⟩else⟨fun _ _=>none⟩
  | _=>⟨fun _ _=>none⟩
 | _=>⟨fun _ _=>none⟩
def sU(H:au)(size n:Nat)(x:Value):Option (List Value):=
 match x with
 | .slice a _ _=>match a with
  | none=>some []
  | some ⟨id,off,cF⟩=>match cF with
   | some _=>none
   | none=>if Nat.beq n 0 then some []else rZ H id off (n*size)
 | .string s=>match Nat.beq size 1 with|true=>some ((pw s.data.toList n).map v7)|false=>none
 | _=>none
def mZ:Value->Option Nat
 | .slice _ n _=>some n
 | .string s=>some (fE s.data.toList)
 | _=>none
def xg(n bytes:Nat):Bool:=Nat.ble ((2*n)*bytes) 281474976710656&&Nat.ble n 9223372036854775807
def yC(size:Nat)(id off len:Nat)(cN:List Value)(n:Nat)(H:au):R:=
 match (if Nat.beq len 0 then some []else rZ H id off (len*size))with
 | some old=>l1 (hT old cN) (len+n) (2*size) H
 | none=>none
def Am(size:Nat)(id off len:Nat)(cN:List Value)(n:Nat)(H:au):R:=
 match H.get id with
 | some b=>match H.ou id b&&(Nat.ble (off+len*size) (fE b.cells)&&jT eP cN)with|true=>l1 (hT (p3 (pw b.cells (off+len*size)) off) cN) (len+n) (2*size) (H.set id none)|false=>none
 | none=>none
def qC(size bytes:Nat)(s:Value)(cN:List Value)(n:Nat)(H:au):R:=
 match s with
 | .slice a len c=>match a with
  | none=>if Nat.beq n 0 then some (.slice none 0 0,H)else if xg n bytes then l1 cN n (2*size) H else none
  | some ⟨id,off,cF⟩=>match cF with
   | some _=>none
   | none=>if Nat.beq n 0 then some (s,H)else
    if xg (len+n) bytes then
     if Nat.beq c (2*size+1)then yC size id off len cN n H
     else if Nat.beq c (2*size)then Am size id off len cN n H else none
    else none
 | _=>none
def gD(size bytes:Nat)(s x:Value)(H:au):R:=
 match mZ x with
 | some n=>match sU H size n x with
  | some cN=>qC size bytes s cN n H
  | none=>none
 | none=>none
def T4(size:Nat)(x:Value)(H:au):R:=match x with
 | .slice a n c=>match a with
  | none=>match Nat.beq n 0&&Nat.beq c 0 with
   | true=>some (.int .i64 0,H)
   | false=>none
  | some _=>match Nat.beq c (2*size+1)with
   | true=>some (.int .i64 n,H)
   | false=>none
 | _=>none
def H0(t:TypeId):Ai:=
 match P.underlying t with
 | some (.slice e)=>match gM P e with
  | some size=>⟨T4 size⟩
  | none=>⟨fun _ _=>none⟩
 | _=>⟨fun _ _=>none⟩
structure An where f:List Value->au->R
def gg(g:Value->Value->au->R):List Value->au->R
 | [a,b],H=>g a b H
 | _,_=>none
def gd(g:Value->au->R):List Value->au->R
 | [a],H=>g a H
 | _,_=>none
def Ao(t:TypeId):Bool:=match P.underlying t with
 | some (.slice _)=>true
 | some .string=>true
 | _=>false
def CE(argTypes:List TypeId):An:=
 match argTypes with
 | [kt,ku]=>match P.underlying kt with
  | some (.slice e)=>match P.info? e with
   | some i=>match h3 P e with
    | some z=>match (Nat.blt 0 i.size&&Nat.beq (fE (dp z)) i.size)&&Ao P ku with
     | true=>⟨gg (gD i.size i.bytes)⟩
     | false=>⟨fun _ _=>none⟩
    | none=>⟨fun _ _=>none⟩
   | none=>⟨fun _ _=>none⟩
  | _=>⟨fun _ _=>none⟩
 | _=>⟨fun _ _=>none⟩
def H2(size bytes:Nat)(z:List Value)(s x:Value)(H:au):R:=
 match s with
 | .slice a len c=>match a with
  | some _=>none
  | none=>match x with
   | .int k n=>match k with
    | .i64=>match kf 0 n&&(Nat.beq len 0&&Nat.beq c 0)with
     | true=>match Nat.beq n.toNat 0 with
      | true=>some (.slice none 0 0,H)
      | false=>match xg n.toNat bytes with
       | true=>l1 (fS n.toNat z) n.toNat (2*size) H
       | false=>none
     | false=>none
    | _=>none
   | _=>none
 | _=>none
def CF(kt:TypeId):An:=
 match P.underlying kt with
 | some (.slice e)=>match P.info? e with
  | some i=>match h3 P e with
   | some z=>match Nat.blt 0 i.size&&Nat.beq (fE (dp z)) i.size with
    | true=>⟨gg (H2 i.size i.bytes (dp z))⟩
    | false=>⟨fun _ _=>none⟩
   | none=>⟨fun _ _=>none⟩
  | none=>⟨fun _ _=>none⟩
 | _=>⟨fun _ _=>none⟩
def CG(t:TypeId):Bool:=match P.underlying t with
 | some (.int _)=>true
 | _=>false
def H3(argTypes:List TypeId):An:=
 match argTypes with
 | [kt,ku]=>match CG P ku with
  | true=>CF P kt
  | false=>CE P argTypes
 | _=>⟨fun _ _=>none⟩
def qD(size:Nat)(d x:Value)(H:au):R:=
 match d with
 | .slice base aho _=>match mZ x with
  | some aF=>
   let n:=Nat.min aF aho
   if Nat.beq n 0 then some (.int .i64 0,H)else
   match base with
   | some ⟨id,off,cF⟩=>match cF with
    | some _=>none
    | none=>match sU H size n x with
     | some cN=>match uZ H id off cN with
      | some H=>some (.int .i64 n,H)
      | none=>none
     | none=>none
   | none=>none
  | none=>none
 | _=>none
def yD(argTypes:List TypeId):An:=
 match argTypes with
 | r1::_=>match P.underlying r1 with
  | some (.slice e)=>match gM P e with
   | some size=>if Nat.blt 0 size then⟨gg (qD size)⟩else⟨fun _ _=>none⟩
   | none=>⟨fun _ _=>none⟩
  | _=>⟨fun _ _=>none⟩
 | _=>⟨fun _ _=>none⟩
def H4:Int->List Value->IntKind->Option Value
 | v,[],k=>some (.int k v)
 | v,x::r,k=>match x with
  | .int _ y=>H4 (cond (kf v y) v y) r k
  | _=>none
def H5:Int->List Value->IntKind->Option Value
 | v,[],k=>some (.int k v)
 | v,x::r,k=>match x with
  | .int _ y=>H5 (cond (kf y v) v y) r k
  | _=>none
def px:List Value->Option Value
 | v::r=>match v with|.int k x=>H4 x r k|_=>none
 | []=>none
def p5:List Value->Option Value
 | v::r=>match v with|.int k x=>H5 x r k|_=>none
 | []=>none
def E4(t:TypeId):Ai:=
 match P.underlying t with
 | some .string=>⟨fun x H=>match x with|.string s=>some (.int .i64 (Int.ofNat (fE s.data.toList)),H)|_=>none⟩
 | some (.array n _)=>⟨fun _ H=>some (.int .i64 n,H)⟩
 | some (.slice _)=>⟨fun x H=>match x with|.slice _ n _=>some (.int .i64 n,H)|_=>none⟩
 | _=>⟨fun _ _=>none⟩
def yE(z:List Value)(x:Value)(H:au):R:=
 match x with
 | .slice a n _=>if Nat.beq n 0 then some (.tuple #[],H)else match a with
  | none=>some (.tuple #[],H)
  | some ⟨id,off,cF⟩=>match cF with
   | some _=>none
   | none=>match uZ H id off (fS n z)with
    | some H=>some (.tuple #[],H)
    | none=>none
 | _=>none
def E5(t:TypeId):Ai:=
 match P.underlying t with
 | some (.slice e)=>match h3 P e with
  | some z=>⟨yE (dp z)⟩
  | none=>⟨fun _ _=>none⟩
 | _=>⟨fun _ _=>none⟩
def tN(b:Builtin)(argTypes:List TypeId):An:=
 match b with
 | .append=>H3 P argTypes
 | .copy=>yD P argTypes
 | .len=>match argTypes with|t::_=>⟨gd (E4 P t).f⟩|_=>⟨fun _ _=>none⟩
 | .cap=>match argTypes with|t::_=>⟨gd (H0 P t).f⟩|_=>⟨fun _ _=>none⟩
 | .min=>⟨fun l H=>gf H (px l)⟩
 | .max=>⟨fun l H=>gf H (p5 l)⟩
 | .clear=>match argTypes with|t::_=>⟨gd (E5 P t).f⟩|_=>⟨fun _ _=>none⟩
 | _=>⟨fun _ _=>none⟩
def ow(len:Nat):Option Value->Option Nat
 | none=>some len
 | some v=>match v with
  | .int _ n=>match kf 0 n with|true=>(match Nat.ble n.toNat len with|true=>some n.toNat|false=>none)|false=>none
  | _=>none
def qE(h:Nat):Option Value->Option Nat
 | none=>some 0
 | some v=>match v with
  | .int _ n=>match kf 0 n with|true=>(match Nat.ble n.toNat h with|true=>some n.toNat|false=>none)|false=>none
  | _=>none
structure ahp where f:Value->Option Value->Option Value->Option Value->au->Option Value
def yF(x:Value)(eZ aq gW:Option Value):Option Value:=match x with
 | .string s=>match gW with
  | some _=>none
  | none=>match ow (fE s.data.toList) aq with
   | some h=>match qE h eZ with
    | some l=>some (.string ⟨(pw (p3 s.data.toList l) (h-l)).toArray⟩)
    | none=>none
   | none=>none
 | _=>none
def r2(h:Nat)(aq gW:Option Value):Option Bool:=match gW with
 | none=>some false
 | some v=>match v with
  | .int _ m=>match aq with
   | some _=>match kf 0 m with
    | true=>(match Nat.beq m.toNat h with|true=>some true|false=>none)
    | false=>none
   | none=>none
  | _=>none
def rj(size:Nat)(a:Option Addr)(l h:Nat)(n0:Bool):Option Value:=match a with
 | none=>some (.slice none 0 0)
 | some ⟨id,off,cF⟩=>match cF with
  | some _=>none
  | none=>some (.slice (some ⟨id,off+l*size,none⟩) (h-l) (cond n0 (2*size+1) (2*size)))
def hP(size:Nat)(x:Value)(eZ aq gW:Option Value):Option Value:=match x with
 | .slice a len c=>match ow len aq with
  | some h=>match qE h eZ with
   | some l=>match r2 h aq gW with
    | some n0=>match Nat.beq c (2*size+1)with
     | true=>rj size a l h (n0||Nat.beq h len)
     | false=>match Nat.beq c (2*size)||Nat.beq c 0 with
      | true=>rj size a l h n0
      | false=>none
    | none=>none
   | none=>none
  | none=>none
 | _=>none
def me(n size:Nat)(x:Value)(eZ aq gW:Option Value)(H:au):Option Value:=match x with
 | .pointer a=>match a with
  | none=>none
  | some ⟨id,off,cF⟩=>match H.get id with
   | none=>none
   | some b=>match Nat.ble (off+n*size) (fE b.cells)with
    | false=>none
    | true=>match ow n aq with
     | some h=>match qE h eZ with
      | some l=>match r2 h aq gW with
       | some n0=>rj size (some ⟨id,off,cF⟩) l h (n0||Nat.beq h n)
       | none=>none
      | none=>none
     | none=>none
 | _=>none
def H6(t:TypeId):ahp:=
 match P.underlying t with
 | some .string=>⟨fun x eZ aq gW _=>yF x eZ aq gW⟩
 | some (.slice e)=>match gM P e with
  | some size=>match Nat.blt 0 size with
   | true=>⟨fun x eZ aq gW _=>hP size x eZ aq gW⟩
   | false=>⟨fun _ _ _ _ _=>none⟩
  | none=>⟨fun _ _ _ _ _=>none⟩
 | some (.array n e)=>match gM P e with
  | some size=>match Nat.blt 0 size with
   | true=>⟨me n size⟩
   | false=>⟨fun _ _ _ _ _=>none⟩
  | none=>⟨fun _ _ _ _ _=>none⟩
 | _=>⟨fun _ _ _ _ _=>none⟩
def tO(size bytes:Nat)(z:List Value)(l c:Value)(H:au):R:=match l with
 | .int _ l=>match c with
  | .int _ c=>
   if 0<=l then(if l<=c then(if Nat.ble (c.toNat*bytes) 281474976710656&&Nat.ble c.toNat 9223372036854775807 then
    l1 (fS l.toNat z) l.toNat (cond (oW l c) (2*size+1) (2*size)) H else none)else none)else none
  | _=>none
 | _=>none
structure MD where f:Value->Value->au->R
def qF(t:TypeId):MD:=
 match P.underlying t with
 | some (.slice e)=>match gM P e,h3 P e,(P.info? e).map (·.bytes)with
  | some size,some z,some bytes=>if Nat.blt 0 size&&Nat.beq (fE (dp z)) size then⟨tO size bytes (dp z)⟩else⟨fun _ _ _=>none⟩
  | _,_,_=>⟨fun _ _ _=>none⟩
 | _=>⟨fun _ _ _=>none⟩
def cB(o:Nat)(x:Value):Option Value:=match x with
 | .pointer a=>match a with
  | some ⟨id,off,cF⟩=>match cF with
   | none=>some (.pointer (some ⟨id,off+o,none⟩))
   | some _=>none
  | none=>none
 | _=>none
structure H7 where f:Value->Option Value
def yG(s:TypeId)(f:Nat):H7:=
 match P.underlying s with
 | some (.struct mY)=>match mY.toList[f]? with
  | some c6=>match gM P c6.type with
   | some 0=>⟨fun _=>none⟩
   | some _=>⟨cB c6.offset⟩
   | none=>⟨fun _=>none⟩
  | none=>⟨fun _=>none⟩
 | _=>⟨fun _=>none⟩
def eQ(n size:Nat)(x i:Value):Option Value:=match i with
 | .int _ i=>match kf 0 i with|true=>(match Nat.blt i.toNat n with|true=>cB (i.toNat*size) x|false=>none)|false=>none
 | _=>none
def iu(size:Nat)(x i:Value):Option Value:=match x with
 | .slice a n _=>eQ n size (.pointer a) i
 | _=>none
def H8(t:TypeId):E0:=
 match P.underlying t with
 | some (.array n e)=>match gM P e with
  | some size=>⟨eQ n size⟩
  | none=>⟨fun _ _=>none⟩
 | some (.slice e)=>match gM P e with
  | some size=>⟨iu size⟩
  | none=>⟨fun _ _=>none⟩
 | _=>⟨fun _ _=>none⟩
structure CH where f:List Value->Nat->Option Value
def CI(t:TypeId):CH:=
 match p4 P t,gM P t with
 | some true,some n=>⟨fun ar off=>some (.agg (pw (p3 ar off) n).toArray)⟩
 | some false,some _=>⟨fun ar off=>ot ar off⟩
 | _,_=>⟨fun _ _=>none⟩
def H9(n size:Nat)(p:List Value->Nat->Option Value)(x i:Value):Option Value:=match x with
 | .agg ar=>match i with
  | .int _ i=>match kf 0 i with|true=>(match Nat.blt i.toNat n with|true=>p ar.toList (i.toNat*size)|false=>none)|false=>none
  | _=>none
 | _=>none
def E6(x i:Value):Option Value:=match x with
 | .string s=>match i with
  | .int _ i=>match kf 0 i with|true=>(ot s.data.toList i.toNat).map v7|false=>none
  | _=>none
 | _=>none
def Ia(t:TypeId):E0:=
 match P.underlying t with
 | some (.array n e)=>match gM P e with
  | some size=>⟨H9 n size (CI P e).f⟩
  | none=>⟨fun _ _=>none⟩
 | some .string=>⟨E6⟩
 | _=>⟨fun _ _=>none⟩
def Ib(t:TypeId)(f:Nat):H7:=
 match P.underlying t with
 | some (.struct mY)=>match mY.toList[f]? with
  | some c6=>⟨fun x=>match x with|.agg ar=>(CI P c6.type).f ar.toList c6.offset|_=>none⟩
  | none=>⟨fun _=>none⟩
 | _=>⟨fun _=>none⟩
def mB(yH:TypeId)(z:Option Value)(x:Value):Option Value:=
 match x with
 | .iface t v=>if Nat.beq t yH then some (.tuple #[v,.bool true])else z.map fun z=>.tuple #[z,.bool false]
 | .nilIface=>z.map fun z=>.tuple #[z,.bool false]
 | _=>none
def yI(yH:TypeId)(x:Value):Option Value:=
 match x with
 | .iface t v=>if Nat.beq t yH then some v else none
 | _=>none
def Ap(yH:TypeId)(ok:Bool):H7:=
 match P.underlying yH with
 | some (.interface _)=>⟨fun _=>none⟩
 | some _=>if ok then⟨mB yH (h3 P yH)⟩else⟨yI yH⟩
 | none=>⟨fun _=>none⟩
structure T5 where g:List Value->Value
def ee:Operand->T5
 | .tmp t=>⟨fun T=>b3 T t⟩
 | .const v=>⟨fun _=>v⟩
 | .global g=>⟨fun _=>.pointer (some ⟨g,0,none⟩)⟩
 | .func f=>⟨fun _=>.func (.func f) #[] #[]⟩
def CJ:Operand->T5
 | .tmp t=>⟨fun T=>b3 T t⟩
 | _=>⟨fun _=>undef⟩
def kg(l:List Operand)(T:List Value):List Value:=match l with
 | []=>[]
 | o::r=>(ee o).g T::kg r T
def tP(l:List (Nat×Operand))(T:List Value):List (Nat×Value):=match l with
 | []=>[]
 |(i,o)::r=>(i,(ee o).g T)::tP r T
def Aq(o:Option Operand)(T:List Value):Option Value:=match o with
 | none=>none
 | some o=>some ((ee o).g T)
def ch(n:Nat)(a:Value)(H:au):R:=match a with
 | .pointer a=>match a with
  | some ⟨id,off,cF⟩=>match cF with
   | none=>match rZ H id off n with
    | some l=>some (.agg l.toArray,H)
    | none=>none
   | some _=>none
  | none=>none
 | _=>none
def Ar(H:au)(id off:Nat):Option Value:=match H.get id with
 | some b=>ot b.cells off
 | none=>none
def aB(a:Value)(H:au):R:=match a with
 | .pointer a=>match a with
  | some ⟨id,off,cF⟩=>match cF with
   | none=>gf H (Ar H id off)
   | some _=>none
  | none=>none
 | _=>none
def n1(t:TypeId):Ai:=match p4 P t,gM P t with
 | some true,some n=>⟨ch n⟩
 | some false,some _=>⟨aB⟩
 | _,_=>⟨fun _ _=>none⟩
def bC(n:Nat)(a v:Value)(H:au):R:=match a with
 | .pointer a=>match a with
  | some ⟨id,off,cF⟩=>match cF with
   | none=>if Nat.beq (fE (dp v)) n then(match uZ H id off (dp v)with
    | some H=>some (undef,H)
    | none=>none)else none
   | some _=>none
  | none=>none
 | _=>none
def r3(x:Value):Option Value:=match x with
 | .pointer a=>match a with|some _=>some x|none=>none
 | .iface _ _=>some x
 | .func fn _ _=>match fn with|.func _=>some x|_=>none
 | _=>none
structure T6 where f:List Value->au->R
def kh(op:Op):T6:=
 match op with
 | .move x=>⟨fun T H=>some ((ee x).g T,H)⟩
 | .assign x=>⟨fun T H=>some ((ee x).g T,H)⟩
 | .pick c a b=>⟨fun T H=>match (ee c).g T with|.bool t=>(match t with|true=>some ((ee a).g T,H)|false=>some ((ee b).g T,H))|_=>none⟩
 | .alloc t=>match h3 P t with
  | some z=>⟨fun _ H=>xf (dp z) H⟩
  | none=>⟨fun _ _=>none⟩
 | .box _ x=>⟨fun T H=>xf (dp ((ee x).g T)) H⟩
 | .build t hD=>⟨fun T H=>gf H ((di P t).f (tP hD.toList T))⟩
 | .buildSlice t len hD=>⟨fun T H=>(eY P t len).f (tP hD.toList T) H⟩
 | .load t a=>⟨fun T H=>(n1 P t).f ((ee a).g T) H⟩
 | .store t a x=>match gM P t with
  | some n=>⟨fun T H=>bC n ((ee a).g T) ((ee x).g T) H⟩
  | none=>⟨fun _ _=>none⟩
 | .nilCheck x=>⟨fun T H=>gf H (r3 ((ee x).g T))⟩
 | .binOp op t x y _=>⟨fun T H=>gf H ((ay P op t (u1 x||u1 y)).f ((ee x).g T) ((ee y).g T))⟩
 | .unOp op _ x=>⟨fun T H=>gf H (hE op ((ee x).g T))⟩
 | .convert s d x=>⟨fun T H=>(Ak P s d).f ((ee x).g T) H⟩
 | .makeInterface t x=>match P.underlying t with
  | some (.interface _)=>⟨fun _ _=>none⟩
  | some _=>⟨fun T H=>some (.iface t ((ee x).g T),H)⟩
  | none=>⟨fun _ _=>none⟩
 | .makeFunc fn first cap=>match fn with
  | .func f=>⟨fun T H=>some (.func (.func f) (kg first.toList T).toArray (kg cap.toList T).toArray,H)⟩
  | _=>⟨fun _ _=>none⟩
 | .makeSlice t l c=>⟨fun T H=>(qF P t).f ((ee l).g T) ((ee c).g T) H⟩
 | .slice t x eZ aq gW=>⟨fun T H=>gf H ((H6 P t).f ((ee x).g T) (Aq eZ T) (Aq aq T) (Aq gW T) H)⟩
 | .fieldAddr s x f=>⟨fun T H=>gf H ((yG P s f).f ((ee x).g T))⟩
 | .field t x f=>⟨fun T H=>gf H ((Ib P t f).f ((ee x).g T))⟩
 | .indexAddr t x i=>⟨fun T H=>gf H ((H8 P t).f ((ee x).g T) ((ee i).g T))⟩
 | .index t x i=>⟨fun T H=>gf H ((Ia P t).f ((ee x).g T) ((ee i).g T))⟩
 | .typeAssert x _ a ok=>⟨fun T H=>gf H ((Ap P a ok).f ((ee x).g T))⟩
 | .extract x i=>⟨fun T H=>match (ee x).g T with|.tuple bV=>gf H (ot bV.toList i)|_=>none⟩
 | .call c=>match c.callee with
  | .builtin b=>⟨fun T H=>(tN P b c.argTypes.toList).f (kg c.args.toList T) H⟩
  | _=>⟨fun _ _=>none⟩
 | _=>⟨fun _ _=>none⟩
def r4(H:au):au:=⟨H.t.set H.next none,Nat.succ H.next,H.dy,(H.next,jU [])::H.dO⟩
def As(t:TypeId):Option (Bool×TypeId):=match P.underlying t with
 | some (.map k e)=>match P.underlying k with
  | some .string=>some (true,e)
  | some (.int _)=>some (false,e)
  | _=>none
 | _=>none
def CK(bZ:Bool)(a b:Value):Option Bool:=match bZ with
 | true=>match a with
  | .string s=>match b with|.string t=>some (s==t)|_=>none
  | _=>none
 | false=>match a with
  | .int k m=>match b with|.int fh n=>(match tK k fh with|true=>some (oW m n)|false=>none)|_=>none
  | _=>none
def wb(bZ:Bool)(key:Value):List Value->Option (Option Value)
 | []=>some none
 | [_]=>none
 | k::v::r=>match CK bZ key k with
  | some true=>some (some v)
  | some false=>wb bZ key r
  | none=>none
def CL(m:Value)(H:au):Option (List Value):=match m with
 | .map r=>match r with
  | none=>some []
  | some id=>match eH H.dO id with
   | some r=>match mX r with|true=>some r.T|false=>none
   | none=>none
 | _=>none
def CM(ok:Bool)(v:Value)(b:Bool):Value:=match ok with
 | true=>.tuple #[v,.bool b]
 | false=>v
def wc(t:TypeId)(ok:Bool)(m key:Value)(H:au):R:=match As P t with
 | some (bZ,e)=>match h3 P e with
  | some z=>match CL m H with
   | some T=>match wb bZ key T with
    | some (some v)=>some (CM ok v true,H)
    | some none=>some (CM ok z false,H)
    | none=>none
   | none=>none
  | none=>none
 | none=>none
def tQ(t:TypeId)(m key v:Value)(H:au):R:=match As P t with
 | some (bZ,_)=>match m with
  | .map r=>match r with
   | some id=>match Nat.ble H.dy id with
    | true=>match CL m H with
     | some T=>match wb bZ key T with
      | some none=>some (undef,⟨H.t,H.next,H.dy,lJ H.dO id (jU (hT T [key,v]))⟩)
      | _=>none
     | none=>none
    | false=>none
   | none=>none
  | _=>none
 | none=>none
inductive At where
 | loop (de:Bool) (c:Code) (T:List Value) (H:au)
 | call (f:FuncId) (args:List Value) (H:au)
 | round (l:Nat) (args:List Value) (H:au)
structure ef where
 cP:mW
 T:List Value
 H:au
abbrev hl:=At->Option ef
inductive we where
 | fn (f:FuncId) (args:List Value)
 | rk (l:Nat) (args:List Value)
def tR(f:Value)(args:List Value):Option we:=match f with
 | .func fn first cap=>match fn with
  | .func g=>some (.fn g (hT first.toList (hT args cap.toList)))
  | .yield l=>match Nat.beq (fE first.toList) 0&&Nat.beq (fE cap.toList) 0 with
   | true=>some (.rk l args)
   | false=>none
  | _=>none
 | _=>none
def ME(t:TypeId)(name:String):Option (FuncId×Bool):=
 match P.info? t with
 | some i=>match i.methods.toList.find? (fun m=>m.name==name)with
  | some m=>match m.path.toList with
   | []=>m.func
   | _=>none
  | none=>none
 | none=>none
def MF(t:TypeId):Option Bool:=match P.underlying t with
 | some (.pointer _)=>some true
 | some _=>some false
 | none=>none
def MG(name:String)(r:Value)(args:List Value):Option we:=match r with
 | .iface t v=>match ME P t name with
  | some (f,ak)=>match MF P t with
   | some b=>if b==ak then some (.fn f (v::args))else none
   | none=>none
  | none=>none
 | _=>none
def Ic(H:au):we->At
 | .fn f args=>.call f args H
 | .rk l args=>.round l args H
def tS(self:hl)(x:Option we)(H:au):R:=
 match x with
 | some t=>match self (Ic H t)with
  | some ⟨_,T,H⟩=>match T with
   | [v]=>some (v,H)
   | _=>none
  | none=>none
 | none=>none
structure T7 where f:hl->List Value->au->R
def u4:Operand->Bool
 | .tmp _=>true
 | .const v=>CA v
 | .global g=>Nat.blt g P.globals.size
 | .func _=>true
def xh(op:Op):T7:=
 match op with
 | .call c=>match c.callee with
  | .builtin _=>⟨fun _ T H=>(kh P op).f T H⟩
  | .value f=>⟨fun self T H=>tS self (tR ((ee f).g T) (kg c.args.toList T)) H⟩
  | .invoke r name=>⟨fun self T H=>tS self (MG P name ((ee r).g T) (kg c.args.toList T)) H⟩
 | .makeMap _ r=>match r with
  | none=>⟨fun _ _ H=>some (.map (some H.next),r4 H)⟩
  | some _=>⟨fun _ _ _=>none⟩
 | .lookup t x i ok=>⟨fun _ T H=>wc P t ok ((ee x).g T) ((ee i).g T) H⟩
 | .mapUpdate t m k x=>⟨fun _ T H=>tQ P t ((ee m).g T) ((ee k).g T) ((ee x).g T) H⟩
 | .insert t m k x=>⟨fun _ T H=>tQ P t ((ee m).g T) ((ee k).g T) ((ee x).g T) H⟩
 | op=>⟨fun _ T H=>(kh P op).f T H⟩
def hU(op:Op):T7:=match jT (u4 P) op.operands.toList with
 | true=>xh P op
 | false=>⟨fun _ _ _=>none⟩
def h5(T:List Value)(d:Option Tmp)(v:Value):List Value:=match d with
 | some d=>gV T d v
 | none=>T
structure ahq where f:List Value->Bool
def ie(all:List Oper)(g:Option (Nat×Bool)):ahq:=
 match g with
 | none=>⟨fun _=>true⟩
 | some (j,cT)=>match (all[j]?).bind (·.dst)with
  | some d=>⟨fun T=>match b3 T d with|.bool b=>b==cT|_=>false⟩
  | none=>⟨fun _=>false⟩
def iv(op:Op):Nat:=
 match op with
 | .load _ _=>1
 | .slice t _ _ _ _=>match P.underlying t with|some (.array _ _)=>1|_=>0
 | .convert s d _=>match P.underlying d with
  | some (.slice _)=>match P.underlying s with|some (.slice _)=>1|_=>2
  | some .string=>match P.underlying s with|some (.slice _)=>1|_=>0
  | _=>0
 | .alloc _=>2
 | .box _ _=>2
 | .buildSlice _ _ _=>2
 | .makeSlice _ _ _=>2
 | .store _ _ _=>4
 | .makeMap _ _=>3
 | .lookup _ _ _ _=>3
 | .mapUpdate _ _ _ _=>3
 | .insert _ _ _ _=>3
 | .call c=>match c.callee with
  | .builtin b=>match b with
   | .append=>4
   | .copy=>4
   | .clear=>4
   | _=>0
  | _=>3
 | _=>0
def Ie(ms:List Nat)(o:Oper):Nat:=
 o.after.toList.foldl (fun s e=>match Region.binds .any e with
  | true=>Nat.lor s (Nat.lor (Nat.shiftLeft 1 e.on) (match ot ms e.on with|some m=>m|none=>0))
  | false=>s) 0
def E7(ms:List Nat):List Oper->List Nat
 | []=>ms
 | o::r=>E7 (hT ms [Ie ms o]) r
def T8(l:List Oper):List Nat:=E7 [] l
def hX(m i:Nat):Bool:=Nat.beq (Nat.land (Nat.shiftRight m i) 1) 1
def looks(all:List Oper)(o:Oper):List Nat:=
 hT (o.op.operands.toList.filterMap fun x=>match x with|.tmp t=>some t|_=>none)
  (match o.guard with
   | some (g,_)=>match (ot all g).bind (·.dst)with|some d=>[d]|none=>[]
   | none=>[])
def sV(i:Nat)(l:List Nat):Bool:=not (jT (fun j=>not (Nat.beq i j)) l)
def Ig(o:Oper)(l:List Nat):Bool:=match o.dst with
 | some d=>sV d l
 | none=>false
def MH(x y:Oper):Bool:=match x.dst with
 | some d=>match y.dst with|some e=>Nat.beq d e|none=>false
 | none=>false
def Au(all:List Oper)(x y:Oper):Bool:=not (Ig x (looks all y))&&(not (Ig y (looks all x))&&not (MH x y))
structure na where
 cL:Nat
 lv:Nat
 eI:Nat
 /-- a call of a function T9 touches kK memory, where others would stand in its way: Av is run on r5 empty heap -/
 lK:Bool
def wg(i:Nat):List Oper->List Nat->List (Oper×Nat×Nat)
 | o::r,m::ms=>(o,i,m)::wg (Nat.succ i) r ms
 | _,_=>[]
def Aw(l:List Oper):List (Oper×Nat×Nat):=wg 0 l (T8 l)
def E8(o:Oper)(i:Nat):Bool:=jT (fun(e:Edge)=>match Region.binds .any e with
 | true=>Nat.blt e.on i
 | false=>true) o.after.toList
def MI(all:List Oper):Bool:=
 jT (fun(y:Oper×Nat×Nat)=>E8 y.1 y.2.1) (Aw all)&&jT (fun(y:Oper×Nat×Nat)=>jT (fun(x:Oper×Nat×Nat)=>match Nat.blt x.2.1 y.2.1 with
  | true=>hX y.2.2 x.2.1||Au all x.1 y.1
  | false=>true) (Aw all)) (Aw all)
def Ua(bd:FuncId->Bool)(op:Op):Bool:=match iv P op with
 | 0=>true
 | 3=>match op with
  | .call c=>match c.callee with
   | .value g=>match g with
    | .func f=>bd f
    | _=>false
   | _=>false
  | _=>false
 | _=>false
def ahr(bd:FuncId->Bool)(c:Code):Bool:=
 Code.rec (motive:=fun _=>Bool) true (fun _ bA _=>jT (fun(o:Oper)=>Ua P bd o.op) bA.toList) (fun _ _ a b=>a&&b) (fun _ _ _ a b=>a&&b) (fun _ _ a=>a) (fun _ _=>false) (fun _ _ _ _ _ _=>false) (fun _=>true) (fun _ _=>false) (fun _=>true) (fun _=>false) true (fun _=>false) c
def ahs(n:Nat):FuncId->Bool:=
 Nat.rec (motive:=fun _=>FuncId->Bool) (fun _=>false) (fun _ bd f=>match ot P.funcs.toList f with
  | some fn=>match fn.body with
   | some c=>ahr P bd c
   | none=>false
  | none=>false) n
def aht(l:List (Oper×Nat×Nat))(i m:Nat):Bool:=not (jT (fun(x:Oper×Nat×Nat)=>match x.1.guard with
 | some _=>true
 | none=>match Nat.blt x.2.1 i with
  | true=>hX m x.2.1||not (Nat.ble 2 (iv P x.1.op))
  | false=>match Nat.blt i x.2.1 with
   | true=>hX x.2.2 i||not (Nat.ble 3 (iv P x.1.op))
   | false=>true) l)
def Ub(l:List (Oper×Nat×Nat))(x:Oper×Nat×Nat):Bool:=match x.1.guard with
 | some _=>false
 | none=>match iv P x.1.op with
  | 3=>Ua P (ahs P 3) x.1.op&&aht P l x.2.1 x.2.2
  | _=>false
def Ax(l:List (Oper×Nat×Nat))(x:Oper×Nat×Nat):na:=match Ub P l x with
 | true=>⟨x.2.1,x.2.2,0,true⟩
 | false=>⟨x.2.1,x.2.2,iv P x.1.op,false⟩
def Ih(l:List (Oper×Nat×Nat)):List (Oper×na):=
 l.map fun x=>(x.1,Ax P l x)
def r6(l:List Oper):List (Oper×na):=Ih P (Aw l)
def CN(a b:Option Addr):Bool:=match a with
 | none=>match b with|none=>true|some _=>false
 | some ⟨i,o,s⟩=>match b with
  | none=>false
  | some ⟨xi,dv,cm⟩=>match s with
   | some _=>false
   | none=>match cm with
    | some _=>false
    | none=>Nat.beq i xi&&Nat.beq o dv
def Uc(a b:Fn):Bool:=match a with
 | .func f=>match b with|.func g=>Nat.beq f g|_=>false
 | _=>false
def MJ(a b:Bool):Bool:=match a with|true=>b|false=>not b
def MK(a b:UInt8):Bool:=Nat.beq a.toNat b.toNat
def Ay(sub:Value->Value->Bool)(x y:Value):Bool:=match x with
 | .bool a=>match y with|.bool b=>MJ a b|_=>false
 | .int k a=>match y with|.int fh b=>tK k fh&&oW a b|_=>false
 | .string a=>match y with|.string b=>tJ MK a.data.toList b.data.toList|_=>false
 | .pointer a=>match y with|.pointer b=>CN a b|_=>false
 | .slice a n c=>match y with|.slice cr k7 cC=>CN a cr&&(Nat.beq n k7&&Nat.beq c cC)|_=>false
 | .map a=>match y with|.map b=>(match a with|none=>(match b with|none=>true|some _=>false)|some i=>(match b with|none=>false|some j=>Nat.beq i j))|_=>false
 | .nilFunc=>match y with|.nilFunc=>true|_=>false
 | .nilIface=>match y with|.nilIface=>true|_=>false
 | .iface t v=>match y with|.iface mC aQ=>Nat.beq t mC&&sub v aQ|_=>false
 | .func f a b=>match y with|.func xj cr dE=>Uc f xj&&(tJ sub a.toList cr.toList&&tJ sub b.toList dE.toList)|_=>false
 | .agg a=>match y with|.agg b=>tJ sub a.toList b.toList|_=>false
 | _=>false
def ML:Value->Value->Bool:=Ay (Ay (Ay fun _ _=>false))
def dZ(H ab:au)(id:Nat):Bool:=match H.get id with
 | some b=>match ab.get id with
  | some dE=>MJ b.wr dE.wr&&tJ ML b.cells dE.cells
  | none=>false
 | none=>false
structure l2 where
 cL:Nat
 eI:Nat
 lx:List Nat
 eZ:Nat
 aq:Nat
 kL:Nat->Bool
def CO:Value->Option Nat
 | .pointer a=>match a with|some a=>some a.block|none=>none
 | .slice a _ _=>match a with|some a=>some a.block|none=>none
 | _=>none
def cd(l:List Value):List Nat:=l.filterMap CO
def sW(o:Oper)(p:na)(T:List Value)(H ab:au):l2:=⟨p.cL,p.eI,match p.eI with|1=>cd (kg o.op.operands.toList T)|4=>cd (kg o.op.operands.toList T)|_=>[],H.next,ab.next,match p.eI with|3=>dZ H ab|_=>fun _=>false⟩
def yJ(l:List Nat)(eZ aq:Nat):Bool:=jT (fun i=>Nat.blt i eZ||Nat.ble aq i) l
def oY(l m:List Nat):Bool:=jT (fun i=>not (sV i m)) l
def sX(k j:l2):Bool:=
 match k.eI with
 | 0=>true
 | 1=>match j.eI with
  | 3=>jT j.kL k.lx
  | 4=>oY k.lx j.lx
  | _=>true
 | 2=>match j.eI with
  | 0=>true
  | 1=>yJ j.lx k.eZ k.aq
  | 2=>true
  | 4=>yJ j.lx k.eZ k.aq
  | _=>false
 | 3=>match j.eI with
  | 0=>true
  | 1=>jT k.kL j.lx
  | 2=>true
  | _=>false
 | 4=>match j.eI with
  | 0=>true
  | 1=>oY k.lx j.lx&&yJ j.lx k.eZ k.aq
  | 2=>true
  | _=>false
 | _=>false
def E9(p:na)(j:l2)(dC:List l2):Bool:=match j.eI with
 | 0=>true
 | _=>jT (fun k=>hX p.lv k.cL||sX k j) dC
def lK(H:au):au:=⟨.nil,H.next,H.dy,[]⟩
def Fa(H:au)(r:R):R:=match r with
 | some (v,bw)=>match Nat.beq bw.next H.next with
  | true=>some (v,H)
  | false=>none
 | none=>none
def sY(self:hl)(o:Oper)(p:na)(T:List Value)(H:au):R:=match p.lK with
 | true=>Fa H ((hU P o.op).f self T (lK H))
 | false=>(hU P o.op).f self T H
def gE(self:hl)(o:Oper)(w:Bool)(T:List Value)(H:au)(k:List Value->au->Option ef):Option ef:=
 match w with
 | true=>match (hU P o.op).f self T H with
  | some (v,H)=>k (h5 T o.dst v) H
  | none=>none
 | false=>k (h5 T o.dst undef) H
def jo(self:hl)(all l:List Oper):List Value->au->Option ef:=
 List.rec (motive:=fun _=>List Value->au->Option ef) (fun T H=>some ⟨.normal,T,H⟩)
  (fun o _ bd T H=>gE P self o ((ie all o.guard).f T) T H bd) l
def rl(self:hl)(o:Oper)(p:na)(w:Bool)(T:List Value)(H:au)(dC:List l2)(k:List Value->au->List l2->Option ef):Option ef:=
 match w with
 | true=>match sY P self o p T H with
  | some (v,ab)=>match E9 p (sW o p T H ab) dC with
   | true=>k (h5 T o.dst v) ab (sW o p T H ab::dC)
   | false=>none
  | none=>none
 | false=>k (h5 T o.dst undef) H dC
def p6(self:hl)(all:List Oper)(l:List (Oper×na)):List Value->au->List l2->Option ef:=
 List.rec (motive:=fun _=>List Value->au->List l2->Option ef) (fun T H _=>some ⟨.normal,T,H⟩)
  (fun o _ bd T H dC=>rl P self o.1 o.2 ((ie all o.1.guard).f T) T H dC bd) l
def ox(self:hl)(all:List Oper)(T:List Value)(H:au):Option ef:=
 match MI all with
 | true=>p6 P self all (r6 P all) T H []
 | false=>none
def CP(T:List Value)(H:au):ResultVar->Option Value
 | .tmp t=>some (b3 T t)
 | .cell a t=>match (n1 P t).f (b3 T a) H with
  | some (v,_)=>some v
  | none=>none
def yK(T:List Value)(H:au):List ResultVar->Option (List Value)
 | []=>some []
 | r::dC=>match CP P T H r with
  | some v=>match yK T H dC with
   | some bV=>some (v::bV)
   | none=>none
  | none=>none
def yL(dC:List ResultVar)(T:List Value)(H:au):Option Value:=
 match dC with
 | [r]=>CP P T H r
 | dC=>match yK P T H dC with
  | some bV=>some (.tuple bV.toArray)
  | none=>none
structure Ii where f:hl->List Value->au->Option ef
def oZ(self:hl)(v:Value)(a b:Ii)(T:List Value)(H:au):Option ef:=match v with
 | .bool t=>match t with
  | true=>a.f self T H
  | false=>b.f self T H
 | _=>none
def Az(id:Nat)(o:Option ef):Option ef:=match o with
 | some ⟨e,T,H⟩=>match e with
  | .exit tT=>if Nat.beq tT id then some ⟨.normal,T,H⟩else some ⟨.exit tT,T,H⟩
  | e=>some ⟨e,T,H⟩
 | none=>none
def nb(o:Option ef)(k:List Value->au->Option ef):Option ef:=match o with
 | some ⟨e,T,H⟩=>match e with
  | .normal=>k T H
  | e=>some ⟨e,T,H⟩
 | none=>none
def Fb(o:Option ef)(k:List Value->au->Option ef):Option ef:=match o with
 | some ⟨e,T,H⟩=>match e with
  | .normal=>k T H
  | _=>none
 | none=>none
def u5(T:List Value)(bz:List Tmp)(args:List Value):List Value:=match bz,args with
 | [],_=>T
 | _,[]=>T
 | p::bz,v::bV=>u5 (gV T p v) bz bV
def MM(T:List Value)(l:Nat)(H:au):Option ef:=match H.dO with
 | []=>none
 | x::dP=>match Nat.beq x.1 l&&Nat.ble H.dy l with
  | true=>match eH dP l with
   | some _=>none
   | none=>match mX x.2 with
   | true=>none
   | false=>match x.2.st with
    | .busy=>none
    | .ready=>some ⟨.normal,T,⟨H.t,H.next,H.dy,dP⟩⟩
    | .over e=>some ⟨e,T,⟨H.t,H.next,H.dy,dP⟩⟩
  | false=>none
def laid(T:List Value)(bz:List Tmp)(cX body:Code)(H:au):au:=
 ⟨(H.t.set H.next none).set (Nat.succ H.next) none,Nat.succ (Nat.succ H.next),H.dy,(Nat.succ H.next,⟨T,bz,cX,body,.ready⟩)::H.dO⟩
def u6(l:Nat):Value:=.func (.yield l) #[] #[]
def u7(self:hl)(g:Value)(bz:List Tmp)(cX body:Code)(T:List Value)(H:au):Option ef:=
 match tR g [u6 (Nat.succ H.next)]with
 | some t=>match t with
  | .fn f args=>match self (.call f args (laid T bz cX body H))with
   | some ⟨_,ft,bw⟩=>match ft with
    | [_]=>MM T (Nat.succ H.next) bw
    | _=>none
   | none=>none
  | .rk _ _=>none
 | none=>none
def u9(l:Nat)(st:uY)(H:au):Option au:=match Nat.ble H.dy l with
 | true=>match eH H.dO l with
  | some r=>match mX r||mX ⟨r.T,r.bz,r.cX,r.body,st⟩with
   | true=>none
   | false=>some ⟨H.t,H.next,H.dy,lJ H.dO l ⟨r.T,r.bz,r.cX,r.body,st⟩⟩
  | none=>none
 | false=>none
def ahu:uY->Bool
 | .ready=>true
 | _=>false
def AA(l:Nat)(H:au):Option au:=match eH H.dO l with
 | some r=>match ahu r.st with
  | true=>u9 l .busy H
  | false=>none
 | none=>none
def CQ:mW->uY
 | .normal=>.ready
 | e=>.over e
def yM:mW->Bool
 | .normal=>true
 | _=>false
def Fc(l:Nat)(o:Option ef):Option ef:=match o with
 | some ⟨e,_,H⟩=>match u9 l (CQ e) H with
  | some bw=>some ⟨.ret,[.bool (yM e)],bw⟩
  | none=>none
 | none=>none
def dr(de:Bool)(c:Code):Ii:=
 Code.rec (motive:=fun _=>Ii)
  ⟨fun _ T H=>some ⟨.normal,T,H⟩⟩
  (fun _ bA d=>match d with
   | true=>⟨fun self T H=>ox P self bA.toList T H⟩
   | false=>⟨fun self T H=>jo P self bA.toList bA.toList T H⟩)
  (fun _ _ x y=>⟨fun self T H=>nb (x.f self T H) fun T H=>y.f self T H⟩)
  (fun c _ _ x y=>⟨fun self T H=>oZ self ((ee c).g T) x y T H⟩)
  (fun id _ x=>⟨fun self T H=>Az id (x.f self T H)⟩)
  (fun b _=>⟨fun self T H=>self (.loop de b T H)⟩)
  (fun g bz cX b _ _=>match de with
   | true=>⟨fun self T H=>u7 self ((CJ g).g T) bz.toList cX b T H⟩
   | false=>⟨fun _ _ _=>none⟩)
  (fun id=>⟨fun _ T H=>some ⟨.exit id,T,H⟩⟩)
  (fun _ _=>⟨fun _ _ _=>none⟩)
  (fun _=>⟨fun _ T H=>some ⟨.normal,T,H⟩⟩)
  (fun _=>⟨fun _ _ _=>none⟩)
  ⟨fun _ T H=>some ⟨.ret,T,H⟩⟩
  (fun _=>⟨fun _ _ _=>none⟩) c
def wh(self:hl)(l:Nat)(args:List Value)(H:au):Option ef:=match eH H.dO l with
 | some r=>match Nat.beq (fE args) (fE r.bz)&&not (mX r)with
  | true=>Fb ((dr P false r.cX).f self (u5 r.T r.bz args) H) fun ft bw=>match AA l bw with
   | some cD=>Fc l ((dr P false r.body).f self ft cD)
   | none=>none
  | false=>none
 | none=>none
structure ahv where f:hl->List Value->au->Option ef
def va(dC:List ResultVar)(o:Option ef):Option ef:=match o with
 | some ⟨e,T,H⟩=>match e with
  | .exit _=>none
  | _=>match yL P dC T H with
   | some v=>some ⟨.ret,[v],H⟩
   | none=>none
 | none=>none
def tU(f:FuncId):ahv:=
 match P.funcs.toList[f]? with
 | some fn=>match fn.body with
  | some c=>⟨fun self args H=>va P fn.results.toList ((dr P true c).f self (hT args (fS (fn.ntmps-fE args) [undef])) H)⟩
  | none=>⟨fun _ _ _=>none⟩
 | none=>⟨fun _ _ _=>none⟩
def step(self:hl):At->Option ef
 | .loop de c T H=>nb ((dr P de c).f self T H) fun T H=>self (.loop de c T H)
 | .call f args H=>(tU P f).f self args H
 | .round l args H=>wh P self l args H
def run(n:Nat):hl:=Nat.rec (motive:=fun _=>hl) (fun _=>none) (fun _ bd t=>step P bd t) n
end
end
end Go.Ab
namespace Go.Ab
open Go
theorem mD{α:Type}(l:List α)(n:Nat):pw l n=l.take n:=by
 induction l generalizing n with
 | nil=>simp[pw]
 | cons x r bd=>cases n with
  | zero=>rfl
  | succ n=>simp_all[pw]
theorem nE{α:Type}(l:List α)(n:Nat):p3 l n=l.drop n:=by
 induction l generalizing n with
 | nil=>simp[p3]
 | cons x r bd=>cases n with
  | zero=>rfl
  | succ n=>simp_all[p3]
theorem iF{α:Type}(l m:List α):hT l m=l++m:=by
 induction l with
 | nil=>rfl
 | cons x r bd=>simp_all[hT]
theorem gX{α:Type}(l:List α):fE l=l.length:=by
 have key:∀(l:List α) (n:Nat),(List.rec (motive:=fun _=>Nat->Nat) (fun n=>n) (fun _ _ bd n=>bd (Nat.succ n)) l n:Nat)=n+l.length:=by
  intro l;induction l with
  | nil=>grind
  | cons x r bd=>grind
 simp_all[fE]
theorem vb{α:Type}(l:List α)(n:Nat):ot l n=l[n]?:=by
 induction l generalizing n with
 | nil=>rfl
 | cons x r bd=>cases n with
  | zero=>rfl
  | succ n=>simp_all[ot]
theorem ki{α:Type}(p:α->Bool)(l:List α):jT p l=l.all p:=by
 induction l with
 | nil=>rfl
 | cons x r bd=>show cond (p x) (jT p r) false=_;simp_all
theorem o0(l:List Value)(n:Nat):b3 l n=l.getD n undef:=by
 induction l generalizing n with
 | nil=>rfl
 | cons x r bd=>cases n with
  | zero=>rfl
  | succ n=>simp_all[b3]
theorem o1(l:List Value)(n:Nat)(v:Value):gV l n v=l.set n v:=by
 induction l generalizing n with
 | nil=>rfl
 | cons x r bd=>cases n with
  | zero=>rfl
  | succ n=>simp_all[gV]
theorem l3(m n:Nat):Nat.ble m n=decide (m<=n):=by
 cases h:Nat.ble m n
 ·grind[Nat.ble_eq_true_of_le]
 simp_all
theorem ly(a b:Int):kf a b=decide (a<=b):=by
 cases a with
 | ofNat m=>cases b with
  | ofNat n=>show Nat.ble m n=_;rw[l3];simp
  | negSucc n=>show false=_;grind
 | negSucc m=>cases b with
  | ofNat n=>rfl
  | negSucc n=>show Nat.ble n m=_;grind[l3]
theorem rm(a b:Int):oW a b=decide (a=b):=by
 cases a<;>cases b
 ·rename_i m n;show Nat.beq m n=_;cases h:Nat.beq m n
  ·symm;rw[decide_eq_false_iff_not];intro a7;injection a7 with a7;simp_all
  simp_all
 ·rfl
 ·rfl
 ·rename_i m n;show Nat.beq n m=_;cases h:Nat.beq n m
  ·symm;rw[decide_eq_false_iff_not];intro a7;simp_all
  simp_all
theorem MN(x:Value)(o:Option (List Value)):Ag x o=o.map (x::·):=by cases o<;>rfl
theorem ahw(n:Nat)(l:List Value):Mv n l=l.drop n:=by
 induction n generalizing l with
 | zero=>rfl
 | succ n bd=>cases l with
  | nil=>rfl
  | cons x r=>simp_all[Mv]
theorem ahx(n:Nat)(l:List Value):Mw n l=if(l.take n).length=n then some (l.take n)else none:=by
 induction n generalizing l with
 | zero=>rfl
 | succ n bd=>cases l with
  | nil=>rfl
  | cons x r=>
   show Ag x (Mw n r)=_
   simp_all[MN]
theorem ahy(l:List Value)(o n:Nat):Mx l o n=if((l.drop o).take n).length=n then some ((l.drop o).take n)else none:=by grind[Mx,ahx,ahw]
theorem ahz(bV l:List Value):EZ bV l=if bV.length<=l.length then some (bV++l.drop bV.length)else none:=by
 induction bV generalizing l with
 | nil=>rfl
 | cons v bV bd=>cases l with
  | nil=>rfl
  | cons x r=>
   show Ag v (EZ bV r)=_
   simp_all[MN]
theorem ahA(l:List Value)(o:Nat)(bV:List Value):My l o bV=if o+bV.length<=l.length then some (l.take o++(bV++l.drop (o+bV.length)))else none:=by
 unfold My;induction o generalizing l with
 | zero=>
  show EZ bV l=_
  grind[ahz]
 | succ o bd=>cases l with
  | nil=>rw[if_neg (by simp)];rfl
  | cons x r=>
   show Ag x (T2 (EZ bV) o r)=_;rw[bd,MN]
   grind
theorem AB(H:au)(id off n:Nat):rZ H id off n=match H.get id with
  | some b=>xe (pw (p3 b.cells off) n) n
  | none=>none:=by
 unfold rZ;cases H.get id with
 | none=>rfl
 | some b=>
  simp only[ahy,xe,mD,nE,gX];by_cases h:((b.cells.drop off).take n).length=n
  ·simp_all
  ·rw[if_neg h]
   grind[Nat.eq_of_beq_eq_true]
theorem Ij(H:au)(id off:Nat)(bV:List Value):uZ H id off bV=match H.get id with
  | some b=>
   match H.ou id b&&(Nat.ble (off+fE bV) (fE b.cells)&&jT eP bV)with
   | true=>some (H.set id (some ⟨hT (pw b.cells off) (hT bV (p3 b.cells (off+fE bV))),b.wr⟩))
   | false=>none
  | none=>none:=by
 unfold uZ;cases H.get id with
 | none=>rfl
 | some b=>
  simp only[ahA,iF,mD,nE,gX];cases ad:H.ou id b with
  | false=>rfl
  | true=>
   cases af:jT eP bV with
   | false=>simp
   | true=>
    by_cases h:off+bV.length<=b.cells.length
    ·simp_all[Nat.ble_eq_true_of_le]
    ·rw[if_neg h];have:Nat.ble (off+bV.length) b.cells.length=false:=by
      cases an:Nat.ble (off+bV.length) b.cells.length with
      | false=>rfl
      | true=>simp_all[Nat.le_of_ble_eq_true]
     simp_all
namespace Tr
variable{α:Type}
theorem Fe(l r:Tr α)(v:Option α)(k:Nat):(Tr.k6 l v r).get (k+1)=cond (Nat.beq (Nat.mod k 2) 0) (l.get (Nat.div k 2)) (r.get (Nat.div k 2)):=rfl
theorem CR(t:Tr α)(n m:Nat)(v:Option α)(b:α)(h:(t.set n v).get m=some b):(m=n/\v=some b)\/(m≠n/\t.get m=some b):=by
 induction t generalizing n m with
 | nil=>
  cases n with
  | zero=>cases m with
   | zero=>exact .inl ⟨rfl,h⟩
   | succ m=>have a7:cond (Nat.beq (Nat.mod m 2) 0) ((Tr.nil:Tr α).get (Nat.div m 2)) ((Tr.nil:Tr α).get (Nat.div m 2))=some b:=h;cases aA:Nat.beq (Nat.mod m 2) 0<;>rw[aA]at a7<;>cases a7
  | succ n=>cases h
 | k6 l x r Cx Cy=>
  cases n with
  | zero=>cases m with
   | zero=>exact .inl ⟨rfl,h⟩
   | succ m=>exact .inr ⟨by simp,h⟩
  | succ n=>
   have e:(Tr.k6 l x r).set (n+1) v=cond (Nat.beq (Nat.mod n 2) 0) (.k6 (l.set (Nat.div n 2) v) x r) (.k6 l x (r.set (Nat.div n 2) v)):=rfl;rw[e]at h;cases m with
   | zero=>cases aA:Nat.beq (Nat.mod n 2) 0<;>rw[aA]at h<;>exact .inr ⟨by simp,h⟩
   | succ m=>
    have p7:∀k,Nat.mod k 2=k%2:=fun _=>rfl
    have n2:∀k,Nat.div k 2=k/2:=fun _=>rfl
    cases aA:Nat.beq (Nat.mod n 2) 0<;>rw[aA]at h<;>simp only[cond,Fe]at h⊢ <;> cases aV:Nat.beq (Nat.mod m 2) 0<;>rw[aV]at h<;>simp only at h⊢
    ·grind[Nat.ne_of_beq_eq_false]
    ·grind
    ·grind
    grind[Nat.eq_of_beq_eq_true]
theorem ahB(t:Tr α)(n m:Nat)(v:Option α)(dj:m≠n):(t.set n v).get m=t.get m\/((t.set n v).get m=none/\t.get m=none):=by
 cases h:(t.set n v).get m with
 | some b=>grind[CR]
 | none=>cases a7:t.get m with
  | none=>simp_all
  | some b=>
   exfalso;induction t generalizing n m with
   | nil=>cases a7
   | k6 l x r Cx Cy=>
    cases n with
    | zero=>cases m with
     | zero=>omega
     | succ m=>
           have:(Tr.k6 l x r).get (m+1)=none:=h
           simp_all
    | succ n=>
     have e:(Tr.k6 l x r).set (n+1) v=cond (Nat.beq (Nat.mod n 2) 0) (.k6 (l.set (Nat.div n 2) v) x r) (.k6 l x (r.set (Nat.div n 2) v)):=rfl;rw[e]at h;cases m with
     | zero=>cases aA:Nat.beq (Nat.mod n 2) 0<;>rw[aA]at h<;>(have:x=none:=h)<;>(have:x=some b:=a7)<;>simp_all
     | succ m=>
      have p7:∀k,Nat.mod k 2=k%2:=fun _=>rfl
      have n2:∀k,Nat.div k 2=k/2:=fun _=>rfl
      cases aA:Nat.beq (Nat.mod n 2) 0<;>rw[aA]at h<;>simp only[cond,Fe]at h a7<;>cases aV:Nat.beq (Nat.mod m 2) 0<;>rw[aV]at h a7<;>simp only at h a7
      ·grind[Nat.ne_of_beq_eq_false]
      ·simp_all
      ·simp_all
      grind[Nat.eq_of_beq_eq_true]
theorem lL(t:Tr α)(n m:Nat)(v:Option α)(dj:m≠n):(t.set n v).get m=t.get m:=by grind[ahB]
theorem yN(t:Tr α)(n:Nat):(t.set n none).get n=none:=by
 cases h:(t.set n none).get n with
 | none=>rfl
 | some b=>
       rcases CR t n n none b h with⟨_,af⟩|⟨ad,_⟩
       ·cases af
       omega
end Tr
end Go.Ab
namespace Go.Ab
open Go
abbrev cQ:=Nat->Option (Nat×Nat×Nat)
inductive bG (σ:cQ):List Value->List Value->Prop
 | nil:bG σ [] []
 | bool {r dD:List Value} (b:Bool):bG σ r dD->bG σ (.bool b::r) (.bool b::dD)
 | int {r dD:List Value} (k:IntKind) (n:Int):bG σ r dD->bG σ (.int k n::r) (.int k n::dD)
 | string {r dD:List Value} (s:ByteArray):bG σ r dD->bG σ (.string s::r) (.string s::dD)
 | xk {r dD:List Value}:bG σ r dD->bG σ (.pointer none::r) (.pointer none::dD)
 | ak {r dD:List Value} (id off c o s:Nat):σ id=some (c,o,s)->bG σ r dD->bG σ (.pointer (some ⟨id,off,none⟩)::r) (.pointer (some ⟨c,o+off,none⟩)::dD)
 | mE {r dD:List Value}:bG σ r dD->bG σ (.slice none 0 0::r) (.slice none 0 0::dD)
 | oy {r dD:List Value} (id off len size c o s:Nat) (a:Addr):σ id=some (c,o,s)->0<size->(len=0\/(a=⟨c,o+off,none⟩/\o+off+len*size<=s))->bG σ r dD->
   bG σ (.slice (some ⟨id,off,none⟩) len (2*size+1)::r) (.slice (some a) len len::dD)
 | n5 {r dD:List Value} (id off len size cap c o s:Nat) (a:Addr):σ id=some (c,o,s)->0<size->len<=cap->
   ((a=⟨c,o+off,none⟩/\o+off+cap*size<=s)\/(len=0/\cap=0))->bG σ r dD->
   bG σ (.slice (some ⟨id,off,none⟩) len (2*size)::r) (.slice (some a) len cap::dD)
 | xl {r dD:List Value}:bG σ r dD->bG σ (.map none::r) (.map none::dD)
 | xm {r dD:List Value} (id c o s:Nat):σ id=some (c,o,s)->bG σ r dD->bG σ (.map (some id)::r) (.map (some c)::dD)
 | func {r dD:List Value} (f:FuncId) (x bK y fi:Array Value):bG σ x.toList bK.toList->bG σ y.toList fi.toList->bG σ r dD->bG σ (.func (.func f) x y::r) (.func (.func f) bK fi::dD)
 | rk {r dD:List Value} (id c o s:Nat):σ id=some (c,o,s)->bG σ r dD->bG σ (.func (.yield id) #[] #[]::r) (.func (.yield c) #[] #[]::dD)
 | nilFunc {r dD:List Value}:bG σ r dD->bG σ (.nilFunc::r) (.nilFunc::dD)
 | nilIface {r dD:List Value}:bG σ r dD->bG σ (.nilIface::r) (.nilIface::dD)
 | iface {r dD:List Value} (t:TypeId) (v aQ:Value):bG σ [v] [aQ]->bG σ r dD->bG σ (.iface t v::r) (.iface t aQ::dD)
 | agg {r dD:List Value} (x bK:Array Value):bG σ x.toList bK.toList->bG σ r dD->bG σ (.agg x::r) (.agg bK::dD)
 | tuple {r dD:List Value} (x bK:Array Value):bG σ x.toList bK.toList->bG σ r dD->bG σ (.tuple x::r) (.tuple bK::dD)
abbrev cg(σ:cQ)(v aQ:Value):Prop:=bG σ [v] [aQ]
section
variable{σ τ:cQ}
theorem bG.cons{v aQ:Value}{r dD:List Value}(h:cg σ v aQ)(U:bG σ r dD):bG σ (v::r) (aQ::dD):=by
 cases h
 case bool b _=>exact .bool b U
 case int k n _=>exact .int k n U
 case string s _=>exact .string s U
 case xk _=>exact .xk U
 case ak id off c o s aR _=>exact .ak id off c o s aR U
 case mE _=>exact .mE U
 case oy id off len size c o s a aR ad af _=>exact .oy id off len size c o s a aR ad af U
 case n5 id off len size cap c o s a aR ad af ax _=>exact .n5 id off len size cap c o s a aR ad af ax U
 case xl _=>exact .xl U
 case xm id c o s aR _=>exact .xm id c o s aR U
 case func f x bK y fi ad af _=>exact .func f x bK y fi ad af U
 case rk id c o s aR _=>exact .rk id c o s aR U
 case nilFunc _=>exact .nilFunc U
 case nilIface _=>exact .nilIface U
 case iface t w aL ad _=>exact .iface t w aL ad U
 case agg x bK ad _=>exact .agg x bK ad U
 case tuple x bK ad _=>exact .tuple x bK ad U
theorem bG.nc{v:Value}{r l:List Value}(h:bG σ (v::r) l):∃aQ dD,l=aQ::dD/\cg σ v aQ/\bG σ r dD:=by
 cases h
 case bool dD b h=>exact⟨_,_,rfl,.bool b .nil,h⟩
 case int dD k n h=>exact⟨_,_,rfl,.int k n .nil,h⟩
 case string dD s h=>exact⟨_,_,rfl,.string s .nil,h⟩
 case xk dD h=>exact⟨_,_,rfl,.xk .nil,h⟩
 case ak dD id off c o s aR h=>exact⟨_,_,rfl,.ak id off c o s aR .nil,h⟩
 case mE dD h=>exact⟨_,_,rfl,.mE .nil,h⟩
 case oy dD id off len size c o s a aR ad af h=>exact⟨_,_,rfl,.oy id off len size c o s a aR ad af .nil,h⟩
 case n5 dD id off len size cap c o s a aR ad af ax h=>exact⟨_,_,rfl,.n5 id off len size cap c o s a aR ad af ax .nil,h⟩
 case xl dD h=>exact⟨_,_,rfl,.xl .nil,h⟩
 case xm dD id c o s aR h=>exact⟨_,_,rfl,.xm id c o s aR .nil,h⟩
 case func dD f x bK y fi ad af h=>exact⟨_,_,rfl,.func f x bK y fi ad af .nil,h⟩
 case rk dD id c o s aR h=>exact⟨_,_,rfl,.rk id c o s aR .nil,h⟩
 case nilFunc dD h=>exact⟨_,_,rfl,.nilFunc .nil,h⟩
 case nilIface dD h=>exact⟨_,_,rfl,.nilIface .nil,h⟩
 case iface dD t w aL ad h=>exact⟨_,_,rfl,.iface t w aL ad .nil,h⟩
 case agg dD x bK ad h=>exact⟨_,_,rfl,.agg x bK ad .nil,h⟩
 case tuple dD x bK ad h=>exact⟨_,_,rfl,.tuple x bK ad .nil,h⟩
theorem bG.qG{l:List Value}(h:bG σ [] l):l=[]:=by cases h;rfl
theorem bG.length{l aG:List Value}(h:bG σ l aG):l.length=aG.length:=by
 induction l generalizing aG with
 | nil=>rw[h.qG]
 | cons v r bd=>obtain⟨aQ,dD,rfl,_,U⟩:=h.nc;grind
theorem bG.mono(aV:∀id x,σ id=some x->τ id=some x){l aG:List Value}(h:bG σ l aG):bG τ l aG:=by
 induction h with
 | nil=>exact .nil
 | bool b _ bd=>exact .bool b bd
 | int k n _ bd=>exact .int k n bd
 | string s _ bd=>exact .string s bd
 | xk _ bd=>exact .xk bd
 | ak id off c o s aR _ bd=>exact .ak id off c o s (aV _ _ aR) bd
 | mE _ bd=>exact .mE bd
 | oy id off len size c o s a aR ad af _ bd=>exact .oy id off len size c o s a (aV _ _ aR) ad af bd
 | n5 id off len size cap c o s a aR ad af ax _ bd=>exact .n5 id off len size cap c o s a (aV _ _ aR) ad af ax bd
 | xl _ bd=>exact .xl bd
 | xm id c o s aR _ bd=>exact .xm id c o s (aV _ _ aR) bd
 | func f x bK y fi _ _ _ i1 j4 bd=>exact .func f x bK y fi i1 j4 bd
 | rk id c o s aR _ bd=>exact .rk id c o s (aV _ _ aR) bd
 | nilFunc _ bd=>exact .nilFunc bd
 | nilIface _ bd=>exact .nilIface bd
 | iface t v aQ _ _ i1 bd=>exact .iface t v aQ i1 bd
 | agg x bK _ _ i1 bd=>exact .agg x bK i1 bd
 | tuple x bK _ _ i1 bd=>exact .tuple x bK i1 bd
theorem bG.append{l aG m lM:List Value}(h:bG σ l aG)(k:bG σ m lM):bG σ (l++m) (aG++lM):=by
 induction l generalizing aG with
 | nil=>rw[h.qG];exact k
 | cons v r bd=>obtain⟨aQ,dD,rfl,hv,U⟩:=h.nc;exact(hv.cons (bd U))
theorem bG.take{l aG:List Value}(h:bG σ l aG)(n:Nat):bG σ (l.take n) (aG.take n):=by
 induction l generalizing aG n with
 | nil=>rw[h.qG];simp;exact .nil
 | cons v r bd=>
  obtain⟨aQ,dD,rfl,hv,U⟩:=h.nc;cases n with
  | zero=>exact .nil
  | succ n=>exact hv.cons (bd U n)
theorem bG.drop{l aG:List Value}(h:bG σ l aG)(n:Nat):bG σ (l.drop n) (aG.drop n):=by
 induction l generalizing aG n with
 | nil=>rw[h.qG];simp;exact .nil
 | cons v r bd=>
  obtain⟨aQ,dD,rfl,hv,U⟩:=h.nc;cases n with
  | zero=>simp_all
  | succ n=>grind
theorem bG.get{l aG:List Value}(h:bG σ l aG)(n:Nat)(v:Value)(hv:l[n]?=some v):∃aQ,aG[n]?=some aQ/\cg σ v aQ:=by
 induction l generalizing aG n with
 | nil=>simp at hv
 | cons x r bd=>
  obtain⟨bK,dD,rfl,ao,U⟩:=h.nc
  grind
theorem bG.set{l aG:List Value}(h:bG σ l aG)(n:Nat){v aQ:Value}(hv:cg σ v aQ):bG σ (l.set n v) (aG.set n aQ):=by
 induction l generalizing aG n with
 | nil=>rw[h.qG];simp;exact .nil
 | cons x r bd=>
  obtain⟨bK,dD,rfl,ao,U⟩:=h.nc;cases n with
  | zero=>exact hv.cons U
  | succ n=>exact ao.cons (bd U n)
theorem cg.undef:cg σ undef undef:=.tuple _ _ .nil .nil
theorem bG.getD{l aG:List Value}(h:bG σ l aG)(n:Nat):cg σ (l.getD n undef) (aG.getD n undef):=by
 cases aX:l[n]? with
 | none=>
  have ad:=List.getElem?_eq_none_iff.1 aX;have af:aG[n]?=none:=List.getElem?_eq_none_iff.2 (by have:=h.length;omega)
  simp_all[cg.undef]
 | some v=>obtain⟨aU,bD,U⟩:=h.get n v aX;simp_all
theorem bG.Ud{α:Type}(k:IntKind)(g:α->Int)(l:List α):bG σ (l.map fun x=>.int k (g x)) (l.map fun x=>.int k (g x)):=by
 induction l with
 | nil=>exact .nil
 | cons x r bd=>exact .int k (g x) bd
theorem Ff{v:Value}(h:Cz v=true):cg σ v v:=by
 cases v with
 | bool b=>exact .bool b .nil
 | int k n=>exact .int k n .nil
 | string s=>exact .string s .nil
 | pointer a=>cases a with
  | none=>exact .xk .nil
  | some a=>cases h
 | slice a n c=>cases a with
  | none=>simp only[Cz,Bool.and_eq_true]at h;obtain rfl:=Nat.eq_of_beq_eq_true h.1;obtain rfl:=Nat.eq_of_beq_eq_true h.2;exact .mE .nil
  | some a=>cases h
 | map r=>cases r with
  | none=>exact .xl .nil
  | some a=>cases h
 | func fn x y=>cases fn with
  | func f=>simp only[Cz,Bool.and_eq_true,gX]at h;have ad:=Nat.eq_of_beq_eq_true h.1;have af:=Nat.eq_of_beq_eq_true h.2;have bn:x.toList=[]:=List.length_eq_zero_iff.1 ad;have bF:y.toList=[]:=List.length_eq_zero_iff.1 af;exact .func f x x y y (by rw[bn];exact .nil) (by rw[bF];exact .nil) .nil
  | _=>cases h
 | nilFunc=>exact .nilFunc .nil
 | nilIface=>exact .nilIface .nil
 | _=>cases h
theorem ahC{l:List Value}(h:jT Cz l=true):bG σ l l:=by
 rw[ki]at h;induction l with
 | nil=>exact .nil
 | cons v r bd=>rw[List.all_cons,Bool.and_eq_true]at h;exact(Ff h.1).cons (bd h.2)
theorem vc{v:Value}(h:CA v=true):cg σ v v:=by
 cases v with
 | agg ar=>exact .agg ar ar (ahC h) .nil
 | tuple bV=>simp only[CA,gX]at h;have e:bV.toList=[]:=List.length_eq_zero_iff.1 (Nat.eq_of_beq_eq_true h);exact .tuple bV bV (by rw[e];exact .nil) .nil
 | bool b=>exact .bool b .nil
 | int k n=>exact .int k n .nil
 | string s=>exact .string s .nil
 | pointer a=>exact Ff h
 | slice a n c=>exact Ff h
 | map r=>exact Ff h
 | func fn x y=>exact Ff h
 | nilFunc=>exact .nilFunc .nil
 | nilIface=>exact .nilIface .nil
 | float k b=>cases h
 | complex k a b=>cases h
 | chan r=>cases h
 | iface t v=>cases h
theorem cg.cells{v aQ:Value}(h:cg σ v aQ):bG σ (dp v) aQ.cells.toList:=by
 cases h
 case agg x bK ad _=>exact ad
 case bool b _=>exact .bool b .nil
 case int k n _=>exact .int k n .nil
 case string s _=>exact .string s .nil
 case xk _=>exact .xk .nil
 case ak id off c o s aR _=>exact .ak id off c o s aR .nil
 case mE _=>exact .mE .nil
 case oy id off len size c o s a aR ad af _=>exact .oy id off len size c o s a aR ad af .nil
 case n5 id off len size cap c o s a aR ad af ax _=>exact .n5 id off len size cap c o s a aR ad af ax .nil
 case xl _=>exact .xl .nil
 case xm id c o s aR _=>exact .xm id c o s aR .nil
 case func f x bK y fi ad af _=>exact .func f x bK y fi ad af .nil
 case rk id c o s aR _=>exact .rk id c o s aR .nil
 case nilFunc _=>exact .nilFunc .nil
 case nilIface _=>exact .nilIface .nil
 case iface t w aL ad _=>exact .iface t w aL ad .nil
 case tuple x bK ad _=>exact .tuple x bK ad .nil
end
def Ue(σ:cQ)(w:World)(id:Nat)(b:az):Prop:=
 ∃c o s dk c2 et,σ id=some (c,o,s)/\w.heap[c]?=some (.cells dk c2 et)/\dk.size=s/\o+b.cells.length<=s/\
  bG σ b.cells ((dk.toList.drop o).take b.cells.length)/\(b.wr=true->et.1<=et.2/\∀i,i<s->(et.1<=i&&i<et.2)=false)
structure jq (σ:cQ) (B:Nat) (h:Nat->Option az) (w:World):Prop where
 fu:∀id b,h id=some b->Ue σ w id b
 own:∀id b,h id=some b->b.wr=true->∃c o s,σ id=some (c,o,s)/\B<=c
 kM:∀i j hY fY,i≠j->h i=some hY->h j=some fY->hY.wr=true->∀c o s cC dv cm,σ i=some (c,o,s)->σ j=some (cC,dv,cm)->c≠cC
def MO(σ:cQ)(h:Nat->Option az)(c:Nat):Prop:=∃id b o s,h id=some b/\b.wr=true/\σ id=some (c,o,s)
structure kb (B:Nat) (σ:cQ) (h:Nat->Option az) (n:Nat) (w:World) (τ:cQ) (a7:Nat->Option az) (k7:Nat) (aL:World):Prop where
 fv:jq τ B a7 aL
 ek:n<=k7
 ext:∀id,id<n\/k7<=id->τ id=σ id
 mono:∀id x,σ id=some x->τ id=some x
 os:aL.os=w.os
 tape:aL.tape=w.tape
 output:aL.output=w.output
 size:w.heap.size<=aL.heap.size
 kN:∀c,c<w.heap.size->¬MO σ h c->aL.heap[c]?=w.heap[c]?
 r7:∀c,MO τ a7 c->c<w.heap.size->MO σ h c
theorem kb.refl{B:Nat}{σ:cQ}{h:Nat->Option az}{n:Nat}{w:World}(aw:jq σ B h w):kb B σ h n w σ h n w:=
 ⟨aw,Nat.le_refl _,fun _ _=>rfl,fun _ _ h=>h,rfl,rfl,rfl,Nat.le_refl _,fun _ _ _=>rfl,fun _ h _=>h⟩
theorem kb.trans{B:Nat}{σ τ iZ:cQ}{h ad af:Nat->Option az}{n e8 fF:Nat}{w dF e3:World}(a:kb B σ h n w τ ad e8 dF)(b:kb B τ ad e8 dF iZ af fF e3):
  kb B σ h n w iZ af fF e3:=by
 refine⟨b.fv,Nat.le_trans a.ek b.ek,fun id e4=>?_,fun id x ao=>b.mono _ _ (a.mono _ _ ao),b.os.trans a.os,b.tape.trans a.tape,b.output.trans a.output,Nat.le_trans a.size b.size,
  fun c aA eT=>?_,fun c bJ aA=>a.r7 c (b.r7 c bJ (Nat.lt_of_lt_of_le aA a.size)) aA⟩
 ·have ad:=a.ek;have af:=b.ek;rw[b.ext id (by omega),a.ext id (by omega)]
 ·rw[b.kN c (Nat.lt_of_lt_of_le aA a.size) (fun bJ=>eT (a.r7 c bJ aA)),a.kN c aA eT]
theorem kb.Ik{B:Nat}{σ:cQ}{h:Nat->Option az}{n:Nat}{w:World}(aw:jq σ B h w)(k:Nat):kb B σ h n w σ h n {w with drawn:=k}:=
 ⟨⟨aw.fu,aw.own,aw.kM⟩,Nat.le_refl _,fun _ _=>rfl,fun _ _ h=>h,rfl,rfl,rfl,Nat.le_refl _,fun _ _ _=>rfl,fun _ h _=>h⟩
open Classical in
noncomputable def h6(h:Nat->Option az)(H ab:au):Nat->Option az:=fun id=>if ab.get id=H.get id then h id else ab.get id
def MP(H:au)(h:Nat->Option az):Prop:=∀id b,H.get id=some b->h id=some b
theorem AD(h:Nat->Option az)(H:au):h6 h H H=h:=by grind[h6]
theorem MP.h6{H ab:au}{h:Nat->Option az}(aw:MP H h):MP ab (h6 h H ab):=by
 intro id b an;unfold Ab.h6;split
 ·rename_i e;exact aw id b (e▸an)
 omega
end Go.Ab
namespace Go.Ab
open Go
section
variable{P:Program}
theorem CS(c o i:Nat):(⟨c,o,none⟩:Addr).add i=⟨c,o+i,none⟩:=by simp_all[Addr.add]
theorem ahD(w:World)(c off n:Nat)(dk:Array Value)(t:TypeId)(et:Nat×Nat)(hg:w.heap[c]?=some (.cells dk t et))(aX:off+n<=dk.size):
  (loadCells ⟨c,off,none⟩ n).run P w=.ok ((dk.toList.drop off).take n).toArray w:=by
 have aD:((dk.toList.drop off).take n).length=n:=by grind
 have:=run_loadCells_list (P:=P) w ⟨c,off,none⟩ ((dk.toList.drop off).take n) (fun j v hv=>by simp_all[CS,List.getElem?_take,World.cell?])
 simp_all
theorem ahE(w:World)(c i:Nat)(dk:Array Value)(t:TypeId)(et:Nat×Nat)(hg:w.heap[c]?=some (.cells dk t et)):w.frozen? ⟨c,i,none⟩=(et.1<=i&&i<et.2):=by simp_all[World.frozen?]
theorem MQ(g o:Nat)(t:TypeId)(et:Nat×Nat):∀(bV:List Value) (i:Nat) (p8:Array Value) (w:World),w.heap[g]?=some (.cells p8 t et)->o+i+bV.length<=p8.size->(∀v∈bV,v.oneCell'=true)->
  (∀j,j<p8.size->(et.1<=j&&j<et.2)=false)->
  (storeCells ⟨g,o,none⟩ bV i).run P w=.ok () (w.setRow g (p8.toList.take (o+i)++bV++p8.toList.drop (o+i+bV.length)).toArray)
 | [],i,p8,w,hg,_,_,_=>by simp only[storeCells,List.append_nil,List.length_nil,Nat.add_zero,List.take_append_drop,Array.toArray_toList];rw[setRow_self w g p8 t et hg];rfl
 | v::dP,i,p8,w,hg,aD,ad,hf=>by
  have aq:o+i<p8.size:=by simp at aD;omega
  have Fg:w.cell? ⟨g,o+i,none⟩=some p8[o+i]:=by simp[World.cell?,hg,aq]
  have ahF:w.frozen? ⟨g,o+i,none⟩=false:=by rw[ahE w g (o+i) p8 t et hg];exact hf _ aq
  have fT:(store ((⟨g,o,none⟩:Addr).add i) v).run P w=.ok () (w.setRow g (p8.setIfInBounds (o+i) v)):=by rw[CS,run_store P w _ v _ (ad v (by simp)),Fg];simp[ahF,setCell_eq_setRow w g (o+i) p8 t et v hg]
  have bd:=MQ g o t et dP (i+1) (p8.setIfInBounds (o+i) v) (w.setRow g (p8.setIfInBounds (o+i) v)) (setRow_heap w g p8 _ t _ hg) (by simp at aD⊢;omega) (fun x ao=>ad x (by simp[ao])) (by simpa using hf);simp only[storeCells,Sem.run_bind,fT,Result.andThen_ok,bd,setRow_setRow]
  congr 3
  have e:=list_seg_step p8.toList (o+i) v dP (by simp at aD⊢;omega);simpa [Array.toList_setIfInBounds,Nat.add_assoc]using e
end
namespace Tr
variable{α:Type}
theorem Uf(t:Tr α)(n:Nat)(v:Option α)(b:α)(h:t.get n=some b):(t.set n v).get n=v:=by
 induction t generalizing n with
 | nil=>cases h
 | k6 l x r Cx Cy=>
  cases n with
  | zero=>rfl
  | succ n=>
   have e:(Tr.k6 l x r).set (n+1) v=cond (Nat.beq (Nat.mod n 2) 0) (.k6 (l.set (Nat.div n 2) v) x r) (.k6 l x (r.set (Nat.div n 2) v)):=rfl;rw[e];rw[Fe]at h;cases aA:Nat.beq (Nat.mod n 2) 0<;>rw[aA]at h<;>simp only[cond,Fe]at h⊢ <;> rw[aA]
   ·grind
   simp_all
end Tr
section
variable{σ τ:cQ}{B n k7:Nat}{h a7 Fh:Nat->Option az}{w aL:World}
theorem jq.AE(aw:jq σ B h w)(aD:∀id b,a7 id=some b->h id=some b):jq σ B a7 w:=
 ⟨fun id b an=>aw.fu id b (aD _ _ an),fun id b an=>aw.own id b (aD _ _ an),fun i j hY fY dj aq bp=>aw.kM i j hY fY dj (aD _ _ aq) (aD _ _ bp)⟩
theorem kb.AE(g:kb B σ h n w τ Fh k7 aL)(aD:∀id b,a7 id=some b->Fh id=some b):kb B σ h n w τ a7 k7 aL:=
 ⟨g.fv.AE aD,g.ek,g.ext,g.mono,g.os,g.tape,g.output,g.size,g.kN,fun c ⟨id,b,o,s,an,aM,aA⟩=>g.r7 c ⟨id,b,o,s,aD _ _ an,aM,aA⟩⟩
theorem jq.Ug(aw:jq σ B h w){id:Nat}{b:az}(an:h id=some b){c o s:Nat}(aA:σ id=some (c,o,s)):c<w.heap.size:=by
 obtain⟨cC,dv,cm,dk,c2,et,ad,af,_⟩:=aw.fu id b an
 grind
theorem Uh(aw:jq σ B h w)(ck:B<=w.heap.size)(id:Nat)(e4:σ id=none)(ar bx dP:List Value)(t:TypeId)(et:Nat×Nat)(aA:bG σ ar bx)
  (cJ:et.1<=et.2/\∀i,i<bx.length+dP.length->(et.1<=i&&i<et.2)=false) (k:Nat) (a7:Nat->Option az) (aD:∀i b,a7 i=some b->(i=id/\b=⟨ar,true⟩)\/(i≠id/\h i=some b)):
  kb B σ h id w (fun i=>if i=id then some (w.heap.size,0,bx.length+dP.length)else σ i) a7 (id+1)
   {w with heap:=w.heap.push (.cells (bx++dP).toArray t et),drawn:=k}:=by
 let τ:cQ:=fun i=>if i=id then some (w.heap.size,0,bx.length+dP.length)else σ i
 have AF:∀i x,σ i=some x->τ i=some x:=fun i x ao=>by grind
 have k8:∀i b,h i=some b->i≠id:=fun i b an e=>by
  obtain⟨c,o,s,_,_,_,ad,_⟩:=aw.fu i b an
  simp_all
 have ahG:τ id=some (w.heap.size,0,bx.length+dP.length):=if_pos rfl;have lN:∀i,i≠id->τ i=σ i:=fun i dj=>if_neg dj
 have hlen:=aA.length;refine⟨⟨?_,?_,?_⟩,by omega,?_,AF,rfl,rfl,rfl,by simp,?_,?_⟩
 ·intro i b an;rcases aD i b an with⟨rfl,rfl⟩|⟨dj,jV⟩
  ·refine⟨w.heap.size,0,_,(bx++dP).toArray,t,et,ahG,by simp,by simp,by grind,?_,fun _=>cJ⟩;have:((bx++dP).toArray.toList.drop 0).take ar.length=bx:=by grind
   simp only[this];exact aA.mono AF
  ·obtain⟨c,o,s,dk,c2,Il,ad,af,ax,aO,bl,bL⟩:=aw.fu i b jV;have ea:c<w.heap.size:=(Array.getElem?_eq_some_iff.1 af).1;refine⟨c,o,s,dk,c2,Il,(lN i dj).trans ad,?_,ax,aO,bl.mono AF,bL⟩
   grind
 ·intro i b an aM;rcases aD i b an with⟨rfl,rfl⟩|⟨dj,jV⟩
  ·simp_all
  ·obtain⟨c,o,s,ad,af⟩:=aw.own i b jV aM
   simp_all
 ·intro i j hY fY dj aq bp aM c o s cC dv cm ad af;have ad:τ i=some (c,o,s):=ad;have af:τ j=some (cC,dv,cm):=af;rcases aD i hY aq with⟨wi,rfl⟩|⟨vd,gN⟩
  ·rcases aD j fY bp with⟨AG,rfl⟩|⟨yO,o2⟩
   ·omega
   ·rw[lN j yO]at af;have ea:=aw.Ug o2 af
    grind
  ·rw[lN i vd]at ad;rcases aD j fY bp with⟨AG,rfl⟩|⟨yO,o2⟩
   ·have ea:=aw.Ug gN ad
    grind
   ·rw[lN j yO]at af;exact aw.kM i j hY fY dj gN o2 aM c o s cC dv cm ad af
 ·grind
 ·grind
 ·rintro c ⟨i,b,o,s,an,aM,gF⟩ ea;have gF:τ i=some (c,o,s):=gF;rcases aD i b an with⟨wi,rfl⟩|⟨dj,jV⟩
  ·simp_all
  ·exact⟨i,b,o,s,jV,aM,(lN i dj).symm.trans gF⟩
theorem ahH(aw:jq σ B h w)(id off:Nat)(b:az)(an:h id=some b)(aM:b.wr=true)(bV nd:List Value)(hv:bG σ bV nd)(hlen:off+bV.length<=b.cells.length)
  (c o s:Nat) (dk:Array Value) (c2:TypeId) (et:Nat×Nat) (ad:σ id=some (c,o,s)) (af:w.heap[c]?=some (.cells dk c2 et))
  (a7:Nat->Option az) (aD:∀i dE,a7 i=some dE->(i=id/\dE=⟨b.cells.take off++bV++b.cells.drop (off+bV.length),b.wr⟩)\/(i≠id/\h i=some dE)):
  kb B σ h n w σ a7 n (w.setRow c (dk.toList.take (o+off)++nd++dk.toList.drop (o+off+nd.length)).toArray):=by
 have Ui:=hv.length;obtain⟨cC,dv,cm,r8,Uj,Il,bn,bF,ey,i6,hQ,iG⟩:=aw.fu id b an;rw[ad]at bn;cases bn;rw[af]at bF;cases bF;have ea:c<w.heap.size:=(Array.getElem?_eq_some_iff.1 af).1;have eT:∀j fY,j≠id->h j=some fY->∀cC dv cm,σ j=some (cC,dv,cm)->cC≠c:=fun j fY dj bp cC dv cm gF e=>aw.kM id j b fY (Ne.symm dj) an bp aM c o s cC dv cm ad gF e.symm
 refine⟨⟨?_,?_,?_⟩,Nat.le_refl _,fun _ _=>rfl,fun _ _ h=>h,rfl,rfl,rfl,by simp,?_,?_⟩
 ·intro i dE jV;rcases aD i dE jV with⟨rfl,rfl⟩|⟨dj,p9⟩
  ·refine⟨c,o,s,_,c2,et,ad,setRow_heap w c dk _ c2 et af,?_,?_,?_,iG⟩
   ·grind
   ·grind
   ·have AH:(b.cells.take off++bV++b.cells.drop (off+bV.length)).length=b.cells.length:=by grind
    simp only[AH];have Fi:((dk.toList.take (o+off)++nd++dk.toList.drop (o+off+nd.length)).drop o).take b.cells.length=
      (((dk.toList.drop o).take b.cells.length).take off++nd++((dk.toList.drop o).take b.cells.length).drop (off+nd.length)):=by
     apply List.ext_getElem?;intro k;simp only[List.getElem?_take,List.getElem?_drop,List.getElem?_append,List.length_append,List.length_take,List.length_drop,Array.length_toList];have dm:min (o+off) dk.size=o+off:=by omega
     have da:min b.cells.length (dk.size-o)=b.cells.length:=by omega
     have a3:min off b.cells.length=off:=by omega
     grind
    have p7:((dk.toList.take (o+off)++nd++dk.toList.drop (o+off+nd.length)).toArray.toList.drop o).take b.cells.length=
      (((dk.toList.drop o).take b.cells.length).take off++nd++((dk.toList.drop o).take b.cells.length).drop (off+nd.length)):=Fi
    rw[p7,<- Ui];exact((hQ.take off).append hv).append (hQ.drop (off+bV.length))
  ·obtain⟨cp,dt,cw,AI,AJ,xn,bX,b7,g3,g4,g5,kO⟩:=aw.fu i dE p9;refine⟨cp,dt,cw,AI,AJ,xn,bX,?_,g3,g4,g5,kO⟩
   grind[setRow_other]
 ·intro i dE jV ve;rcases aD i dE jV with⟨rfl,rfl⟩|⟨dj,p9⟩
  ·exact aw.own i b an aM
  ·exact aw.own i dE p9 ve
 ·intro i j hY fY dj aq bp AK;have ahI:∃Im,h i=some Im/\Im.wr=hY.wr:=by grind
  have ahJ:∃MR,h j=some MR:=by grind
  obtain⟨Im,gN,yP⟩:=ahI;obtain⟨MR,o2⟩:=ahJ;exact aw.kM i j Im MR dj gN o2 (yP.trans AK)
 ·intro k ag Fj;refine setRow_other w c k _ ?_;intro e;subst e;exact Fj ⟨id,b,o,s,an,aM,ad⟩
 ·rintro k ⟨i,dE,dv,cm,jV,ve,gF⟩ _;rcases aD i dE jV with⟨rfl,rfl⟩|⟨dj,p9⟩
  ·exact⟨i,b,dv,cm,an,aM,gF⟩
  ·exact⟨i,dE,dv,cm,p9,ve,gF⟩
theorem ahK(aw:jq σ B h w)(id:Nat)(b:az)(an:h id=some b)(aM:b.wr=true)(c o s:Nat)(dk:Array Value)(c2:TypeId)(et:Nat×Nat)(ad:σ id=some (c,o,s))(af:w.heap[c]?=some (.cells dk c2 et)):
  kb B σ h n w σ h n (w.freeze {block:=c,off:=dk.size} 1):=by
 obtain⟨cC,dv,cm,r8,Uj,Il,bn,bF,ey,i6,hQ,iG⟩:=aw.fu id b an;rw[ad]at bn;cases bn;rw[af]at bF;cases bF;have ea:c<w.heap.size:=(Array.getElem?_eq_some_iff.1 af).1
 let dF:=w.freeze {block:=c,off:=dk.size} 1
 have dj:∀i,i≠c->dF.heap[i]?=w.heap[i]?:=fun i aq=>by
  show(World.freeze w {block:=c,off:=dk.size} 1).heap[i]?=_
  simp_all[World.freeze,Array.getElem?_modify,Ne.symm]
 have ahL:dF.heap[c]?=some (.cells dk c2 (if et.1==et.2 then(dk.size,dk.size+1)else(min et.1 dk.size,max et.2 (dk.size+1)))):=by
  show(World.freeze w {block:=c,off:=dk.size} 1).heap[c]?=_;unfold World.freeze
  grind
 have Io:dF.heap.size=w.heap.size:=by
  show(World.freeze w {block:=c,off:=dk.size} 1).heap.size=_
  simp_all[World.freeze]
 have MS:dF.os=w.os/\dF.tape=w.tape/\dF.output=w.output:=by
  show(World.freeze w {block:=c,off:=dk.size} 1).os=_/\(World.freeze w {block:=c,off:=dk.size} 1).tape=_/\(World.freeze w {block:=c,off:=dk.size} 1).output=_
  simp_all[World.freeze]
 have eT:∀j fY,j≠id->h j=some fY->∀cC dv cm,σ j=some (cC,dv,cm)->cC≠c:=fun j fY dj bp cC dv cm gF e=>aw.kM id j b fY (Ne.symm dj) an bp aM c o s cC dv cm ad gF e.symm
 refine⟨⟨?_,aw.own,aw.kM⟩,Nat.le_refl _,fun _ _=>rfl,fun _ _ h=>h,MS.1,MS.2.1,MS.2.2,Nat.le_of_eq Io.symm,?_,fun _ h _=>h⟩
 ·intro i dE jV;by_cases aq:i=id
  ·subst aq;rw[an]at jV;cases jV;refine⟨c,o,s,dk,c2,_,ad,ahL,ey,i6,hQ,fun _=>?_⟩;obtain⟨gr,fZ⟩:=iG aM;obtain⟨eZ,aq⟩:=et;simp only at gr fZ⊢;by_cases he:eZ=aq
   ·grind
   ·have r9:s<=eZ:=by grind
    grind
  ·obtain⟨cp,dt,cw,AI,AJ,xn,bX,b7,g3,g4,g5,kO⟩:=aw.fu i dE jV;exact⟨cp,dt,cw,AI,AJ,xn,bX,by grind,g3,g4,g5,kO⟩
 ·intro k ag Fj;refine dj k fun e=>Fj ?_
  subst e;exact⟨id,b,o,s,an,aM,ad⟩
end
end Go.Ab
namespace Go.Ab
open Go
theorem blt_eq(m n:Nat):Nat.blt m n=decide (m<n):=by grind[Nat.blt,l3]
theorem Ip(oX h4:Nat)(aM:h4=2*oX)(bM:0<oX)(n:Int):
  tL oX h4 n=if n%(h4:Int)<oX then n%(h4:Int)else n%(h4:Int)-h4:=by
 cases n with
 | ofNat m=>
  simp only[tL,Int.ofNat_eq_natCast];have e:((m:Int)%(h4:Int))=((m%h4:Nat):Int):=by omega
  rw[e];cases h:Nat.blt m oX with
  | true=>
   have:m<oX:=by simp_all
   have aV:m%h4=m:=Nat.mod_eq_of_lt (by omega)
   simp_all
  | false=>
   cases af:Nat.blt (m%h4) oX with
   | true=>
    have:m%h4<oX:=by simp_all
    grind
   | false=>
    have ax:¬m%h4<oX:=by simp_all[blt_eq]
    have aO:m%h4<h4:=Nat.mod_lt _ (by omega)
    grind
 | negSucc m=>
  simp only[tL];have e:(Int.negSucc m%(h4:Int))=((h4-1-m%h4:Nat):Int):=by have aO:m%h4<h4:=Nat.mod_lt _ (by omega);rw[Int.negSucc_emod m (by omega)];omega
  rw[e];have aO:m%h4<h4:=Nat.mod_lt _ (by omega);cases h:Nat.blt m oX with
  | true=>
   have:m<oX:=by simp_all
   have aV:m%h4=m:=Nat.mod_eq_of_lt (by omega)
   grind
  | false=>
   cases af:Nat.blt (m%h4) oX with
   | true=>
    have:m%h4<oX:=by simp_all
    grind
   | false=>
    have ax:¬m%h4<oX:=by simp_all[blt_eq]
    grind
theorem Uk(h4:Nat)(bM:0<h4)(n:Int):r0 h4 n=n%(h4:Int):=by
 cases n with
 | ofNat m=>rfl
 | negSucc m=>simp only[r0,Int.ofNat_eq_natCast];have aO:m%h4<h4:=Nat.mod_lt _ bM;rw[Int.negSucc_emod m (by omega)];omega
theorem tV(k:IntKind)(n:Int):iY k n=k.wrap n:=by
 cases k<;>simp only[iY,IntKind.wrap,IntKind.bits,IntKind.signed]
 ·grind[Ip]
 ·grind[Ip]
 ·grind[Ip]
 ·grind[Ip]
 all_goals rw[Uk _ (by omega)];simp
theorem Iq(k:IntKind)(n:Int):ov k n=(BitVec.ofInt k.bits n).toNat:=by rw[BitVec.toNat_ofInt];cases k<;>simp only[ov,IntKind.bits]<;>rw[Uk _ (by omega)]<;>rfl
theorem Ul{k fh:IntKind}(h:tK k fh=true):k=fh:=by cases k<;>cases fh<;>first|rfl|cases h
section
variable{P:Program}{σ:cQ}
theorem cg.oz{k:IntKind}{n:Int}{v:Value}(h:cg σ (.int k n) v):v=.int k n:=by cases h;rfl
theorem cg.Ir{b:Bool}{v:Value}(h:cg σ (.bool b) v):v=.bool b:=by cases h;rfl
theorem cg.yQ{s:ByteArray}{v:Value}(h:cg σ (.string s) v):v=.string s:=by cases h;rfl
theorem cg.CT{x:Array Value}{v:Value}(h:cg σ (.agg x) v):∃bK,v=.agg bK/\bG σ x.toList bK.toList:=by cases h;simp_all
theorem cg.ahM{x:Array Value}{v:Value}(h:cg σ (.tuple x) v):∃bK,v=.tuple bK/\bG σ x.toList bK.toList:=by cases h;simp_all
theorem cg.Fk{id off:Nat}{cF:Option Nat}{v:Value}(h:cg σ (.pointer (some ⟨id,off,cF⟩)) v):cF=none/\∃c o s,v=.pointer (some ⟨c,o+off,none⟩)/\σ id=some (c,o,s):=by cases h;simp_all
theorem cg.bool{b:Bool}:cg σ (.bool b) (.bool b):=bG.bool b .nil
theorem cg.int{k:IntKind}{n:Int}:cg σ (.int k n) (.int k n):=bG.int k n .nil
theorem cg.string{s:ByteArray}:cg σ (.string s) (.string s):=bG.string s .nil
theorem cg.dk{l aG:List Value}(h:bG σ l aG):cg σ (.agg l.toArray) (.agg aG.toArray):=.agg _ _ (by omega) .nil
theorem ahN(op:BinOp)(k:IntKind)(a b:Int)(t:TypeId)(py pz:Operand){v:Value}(aq:CC op=none)(h:HY op k a b=some v)(w:World):
  (do eqGuard op t py pz (.int k a) (.int k b);binOp op t (.int k a) (.int k b)).run P w=.ok v w/\cg σ v v:=by
 have hg:(eqGuard op t py pz (.int k a) (.int k b)).run P w=.ok () w:=by cases op<;>rfl
 rw[Sem.run_bind,hg,Result.andThen_ok];cases op<;>simp only[HY]at h<;>try cases h
 case add=>exact⟨by simp[binOp,Op.intArith,tV],.int⟩
 case sub=>exact⟨by simp[binOp,Op.intArith,tV],.int⟩
 case mul=>exact⟨by simp[binOp,Op.intArith,tV],.int⟩
 case quo=>
  rw[rm]at h;by_cases an:b=0
  ·simp_all
  ·simp[an]at h;subst h;exact⟨by simp[binOp,Op.intDiv,an,tV],.int⟩
 case rem=>
  rw[rm]at h;by_cases an:b=0
  ·simp_all
  ·simp[an]at h;subst h;exact⟨by simp[binOp,Op.intDiv,an],.int⟩
 case and=>exact⟨by simp_all[binOp,Op.intBits,tV,Iq],.int⟩
 case or=>exact⟨by simp_all[binOp,Op.intBits,tV,Iq],.int⟩
 case xor=>exact⟨by simp_all[binOp,Op.intBits,tV,Iq],.int⟩
 case eql=>exact⟨by simp[binOp,Op.intCmp,rm];rfl,.bool⟩
 case neq=>exact⟨by simp[binOp,Op.intCmp,rm];rfl,.bool⟩
 case lss=>exact⟨by simp[binOp,Op.intCmp,ly];grind,.bool⟩
 case leq=>exact⟨by simp[binOp,Op.intCmp,ly],.bool⟩
 case gtr=>exact⟨by simp[binOp,Op.intCmp,ly];grind,.bool⟩
 case geq=>exact⟨by simp[binOp,Op.intCmp,ly],.bool⟩
theorem ahO(a b:ByteArray):(⟨(hT a.data.toList b.data.toList).toArray⟩:ByteArray)=a++b:=by rw[iF];rfl
theorem ahP(op:BinOp)(a b:ByteArray)(t:TypeId)(py pz:Operand){v:Value}(aq:CC op=none)(h:MA op a.data.toList b.data.toList=some v)(w:World):
  (do eqGuard op t py pz (.string a) (.string b);binOp op t (.string a) (.string b)).run P w=.ok v w/\cg σ v v:=by
 have hg:(eqGuard op t py pz (.string a) (.string b)).run P w=.ok () w:=by cases op<;>rfl
 rw[Sem.run_bind,hg,Result.andThen_ok];have bn:a.toList=a.data.toList:=ByteArray.toList_eq a;have bF:b.toList=b.data.toList:=ByteArray.toList_eq b;cases op<;>simp only[MA]at h<;>try cases h
 case add=>
  split at h
  ·rename_i aD;cases h;rw[ahO];rw[gX,gX,l3]at aD;have aD:=of_decide_eq_true aD;have c4:a.data.toList.length=a.size:=by rfl
   have cw:b.data.toList.length=b.size:=by rfl
   have:¬(((a.size+b.size:Nat):Int)>IntKind.i64.max):=by
    have e:IntKind.i64.max=9223372036854775807:=by decide
    omega
   refine⟨?_,.string⟩;show(Op.stringOp .add a b).run P w=_
   simp_all[Op.stringOp]
  ·cases h
 case eql=>exact⟨by simp_all[binOp,Op.stringOp],.bool⟩
 case neq=>exact⟨by simp_all[binOp,Op.stringOp],.bool⟩
 case lss=>exact⟨by simp_all[binOp,Op.stringOp],.bool⟩
 case leq=>exact⟨by simp_all[binOp,Op.stringOp],.bool⟩
 case gtr=>exact⟨by simp_all[binOp,Op.stringOp],.bool⟩
 case geq=>exact⟨by simp_all[binOp,Op.stringOp],.bool⟩
theorem MT{t:TypeId}{b:Bool}(h:p4 P t=some b)(w:World):(isAgg t).run P w=.ok b w:=by
 unfold p4 at h;cases bD:P.underlying t with
 | none=>simp_all
 | some d=>rw[bD]at h;unfold isAgg;rw[Sem.run_bind,run_underlying bD w];cases d<;>simp at h<;>subst h<;>rfl
theorem oA{t:TypeId}{n:Nat}(h:gM P t=some n)(w:World):(sizeOf t).run P w=.ok n w:=by
 unfold gM at h;cases aq:P.info? t with
 | none=>simp_all
 | some i=>simp_all[sizeOf,typeInfo]
theorem sZ{t:TypeId}{z:Value}(h:h3 P t=some z)(w:World):(zeroValue t).run P w=.ok z w/\CA z=true:=by
 unfold h3 at h;cases aq:P.info? t with
 | none=>simp_all
 | some i=>
  rw[aq]at h;cases eu:i.zero with
  | none=>simp_all
  | some MU=>
   simp only[eu]at h;cases aA:CA MU with
   | false=>simp_all
   | true=>simp_all[zeroValue,typeInfo]
theorem Fl{t:TypeId}{ar:List Value}{bx:Array Value}{off:Nat}{v:Value}(aA:bG σ ar bx.toList)(h:sS P t ar off=some v)(w:World):
  ∃aQ,(part t bx off).run P w=.ok aQ w/\cg σ v aQ:=by
 unfold sS at h;cases br:p4 P t with
 | none=>simp_all
 | some b=>
  cases aw:gM P t with
  | none=>simp_all
  | some n=>
   unfold part;rw[Sem.run_bind,MT br w,Result.andThen_ok];cases b with
   | true=>
    simp only[br,aw]at h;cases h;refine⟨.agg (bx.extract off (off+n)),?_,?_⟩
    ·simp[oA aw w]
    ·rw[mD,nE];refine .agg _ _ ?_ .nil;have:(bx.extract off (off+n)).toList=(bx.toList.drop off).take n:=by simp_all
     rw[this];simpa using(aA.drop off).take n
   | false=>
    simp only[br,aw,vb]at h;obtain⟨aQ,ad,af⟩:=aA.get off v h
    simp_all
theorem Um{d D:Nat}{aj bg:List Value}{wj wk:Array Value}(ao:bG σ aj wj.toList)(ba:bG σ bg wk.toList)
  (bd:∀t x y b bK fi,nZ P d t x y=some b->cg σ x bK->cg σ y fi->∀w,(Op.equalIn D t bK fi).run P w=.ok b w):
  ∀(bR:List Field) (b:Bool),eqFields P (nZ P d) aj bg bR=some b->∀w,(Op.eqFields D wj wk bR).run P w=.ok b w
 | [],b,h,w=>by cases h;rfl
 | f::bR,b,h,w=>by
  unfold eqFields at h;split at h
  ·cases h
  ·rename_i aX;have Is:f.name≠ "_" := by simpa using aX
   cases br:sS P f.type aj f.offset with
   | none=>simp[br]at h
   | some a=>
    cases an:sS P f.type bg f.offset with
    | none=>simp[br,an]at h
    | some c=>
     simp only[br,an]at h;obtain⟨cr,MV,MW⟩:=Fl ao br w;obtain⟨cC,cM,tW⟩:=Fl ba an w;cases b5:nZ P d f.type a c with
     | none=>simp[b5]at h
     | some r=>
      have U:=bd _ _ _ _ _ _ b5 MW tW w;simp only[Op.eqFields,Is,ne_eq,not_false_eq_true,if_true,Sem.run_bind,MV,cM,U,Result.andThen_ok];cases r with
      | false=>simp[b5]at h;subst h;rfl
      | true=>simp only[b5]at h;simpa using Um ao ba bd bR b h w
theorem Un{d D:Nat}{e:TypeId}{n:Nat}(aX:P.cellsOf e=n){aj bg:List Value}{wj wk:Array Value}(ao:bG σ aj wj.toList)(ba:bG σ bg wk.toList)
  (bd:∀t x y b bK fi,nZ P d t x y=some b->cg σ x bK->cg σ y fi->∀w,(Op.equalIn D t bK fi).run P w=.ok b w):
  ∀(k i:Nat) (b:Bool),CB P (nZ P d e) e n aj bg k i=some b->∀w,(Op.eqItems D e (P.cellsOf e) wj wk (List.range' i k)).run P w=.ok b w
 | 0,i,b,h,w=>by cases h;rfl
 | k+1,i,b,h,w=>by
  unfold CB at h;cases br:sS P e aj (i*n)with
  | none=>simp[br]at h
  | some a=>
   cases an:sS P e bg (i*n)with
   | none=>simp[br,an]at h
   | some c=>
    simp only[br,an]at h;obtain⟨cr,MV,MW⟩:=Fl ao br w;obtain⟨cC,cM,tW⟩:=Fl ba an w;cases b5:nZ P d e a c with
    | none=>simp[b5]at h
    | some r=>
     have U:=bd _ _ _ _ _ _ b5 MW tW w;simp only[List.range'_succ,Op.eqItems,aX,Sem.run_bind,MV,cM,U,Result.andThen_ok];cases r with
     | false=>simp[b5]at h;subst h;rfl
     | true=>simp only[b5]at h;have:=Un aX ao ba bd k (i+1) b h w;rw[aX]at this;simpa using this
theorem It:∀(d:Nat) (t:TypeId) (x y:Value) (b:Bool) (bK fi:Value),nZ P d t x y=some b->cg σ x bK->cg σ y fi->∀(D:Nat) (w:World),d<=D->(Op.equalIn D t bK fi).run P w=.ok b w
 | 0,t,x,y,b,bK,fi,h,_,_,D,w,_=>by cases h
 | d+1,t,x,y,b,bK,fi,h,ao,ba,D,w,k9=>by
  obtain⟨D,rfl⟩:∃MX,D=MX+1:=⟨D-1,by omega⟩;unfold nZ at h;cases bD:P.underlying t with
  | none=>simp[bD]at h
  | some iH=>
   simp only[bD]at h;split at h
   case h_1 jA=>cases jA;cases h;rw[ao.Ir,ba.Ir];exact run_equalIn_bool w D t _ _ bD
   case h_2 jA=>
    cases jA;rw[ao.oz,ba.oz];split at h
    ·rename_i ag;cases h;rw[Ul ag,run_equalIn_int w D t _ _ _ _ bD,rm];rfl
    ·cases h
   case h_3 jA=>cases jA;cases h;rw[ao.yQ,ba.yQ,run_equalIn_string w D t _ _ bD,ByteArray.toList_eq,ByteArray.toList_eq]
   case h_4 jA=>cases jA;cases h;cases ao;cases ba<;>simp[Op.equalIn,run_underlying bD]
   case h_5 jA=>cases jA;cases h;cases ao;cases ba;simp[Op.equalIn,run_underlying bD]
   case h_6 jA=>cases jA;cases h;cases ao;cases ba;simp[Op.equalIn,run_underlying bD]
   case h_7 jA=>cases jA;cases h;cases ao;cases ba;simp[Op.equalIn,run_underlying bD]
   case h_8 jA=>cases jA;cases h;cases ao;cases ba;simp[Op.equalIn,run_underlying bD]
   case h_9 jA=>cases jA;cases h;cases ao;cases ba<;>simp[Op.equalIn,run_underlying bD]
   case h_10 jA=>cases jA;cases h;cases ba;cases ao<;>simp[Op.equalIn,run_underlying bD]
   case h_11 jA=>cases jA;cases h;cases ao;cases ba;simp[Op.equalIn,run_underlying bD]
   case h_12 jA=>cases jA;cases h;cases ao;cases ba<;>simp[Op.equalIn,run_underlying bD]
   case h_13 jA=>cases jA;cases h;cases ao<;>cases ba<;>simp[Op.equalIn,run_underlying bD]
   case h_14 jA=>
    rename_i mY aj bg;cases jA;obtain⟨wj,rfl,MY⟩:=ao.CT;obtain⟨wk,rfl,MZ⟩:=ba.CT;split at h
    ·cases h
    ·rename_i fT;have hf:P.fieldsOf t=mY:=by simp[Program.fieldsOf,bD]
     rw[run_equalIn_struct w D t wj wk (by rw[hf];exact bD) (by simpa using fT),hf];exact Um MY MZ (fun t x y b bK fi ad af ax w=>It d t x y b bK fi ad af ax D w (by omega)) _ _ h w
   case h_15 jA=>
    rename_i len e aj bg;cases jA;obtain⟨wj,rfl,MY⟩:=ao.CT;obtain⟨wk,rfl,MZ⟩:=ba.CT;cases aw:gM P e with
    | none=>simp[aw]at h
    | some n=>
     simp only[aw]at h;cases aq:P.info? e with
     | none=>simp[gM,aq]at aw
     | some i=>
      have aX:P.cellsOf e=n:=by simp[gM,aq]at aw;simp[Program.cellsOf,aq,aw]
      rw[run_equalIn_array w D wj wk bD aq,List.range_eq_range'];exact Un aX MY MZ (fun t x y b bK fi ad af ax w=>It d t x y b bK fi ad af ax D w (by omega)) _ _ _ h w
   case h_16=>cases h
end
end Go.Ab
namespace Go.Ab
open Go
section
variable{P:Program}{σ:cQ}
theorem ahQ(l:Bool)(k fh:IntKind)(a b:Int)(op:BinOp)(jW:CC op=some l)(t:TypeId)(py pz:Operand){v:Value}(h:Ah l k a b=some v)(w:World):
  (do eqGuard op t py pz (.int k a) (.int fh b);binOp op t (.int k a) (.int fh b)).run P w=.ok v w/\cg σ v v:=by
 unfold Ah at h;split at h
 ·cases h
 ·rename_i an;have bF:∀n:Nat,(2:Int)^n=((2^n:Nat):Int):=fun n=>by simp
  cases op<;>cases jW
  ·simp at h;subst h;refine⟨?_,.int⟩;show(Op.shift .shl k a fh b).run P w=_
   simp_all[Op.shift,if_neg,tV]
  ·simp at h;subst h;refine⟨?_,.int⟩;show(Op.shift .shr k a fh b).run P w=_
   simp_all[Op.shift,if_neg]
theorem Uo(op:BinOp)(t:TypeId)(py pz:Operand)(x y bK fi:Value)(hg:u2 P t (u1 py||u1 pz) x y=true)(ao:cg σ x bK)(ba:cg σ y fi)(w:World):
  (eqGuard op t py pz bK fi).run P w=.ok () w:=by
 have key:∀(p:Prop) [Decidable p] (m:Sem Unit),m.run P w=.ok () w->(if p then(pure ():Sem Unit)else m).run P w=.ok () w:=fun p _ m aV=>by simp_all
 unfold eqGuard;simp only[Sem.run_ite];cases ao
 case nilIface=>
  cases ba
  case nilIface=>simp only[u2]at hg;cases py<;>cases pz<;>simp[u1]at hg<;>cases op<;>simp
  all_goals cases op<;>simp
 case agg aj wj _ _=>
  cases ba
  case agg bg wk _ _=>simp_all[u2]
  all_goals cases op<;>simp
 all_goals cases op<;>simp
def M0(bK:Value):Bool:=match bK with|.int _ _=>false|.float _ _=>false|.complex _ _ _=>false|.string _=>false|_=>true
theorem ahR(t:TypeId)(bK fi:Value)(aX:M0 bK=true):
  binOp .eql t bK fi=(do pure (.bool (<- Op.equal t bK fi)))/\binOp .neq t bK fi=(do pure (.bool (!(<- Op.equal t bK fi)))):=by
 cases bK<;>first|(simp[M0]at aX;done)|(cases fi<;>exact⟨rfl,rfl⟩)
theorem ahS(op:BinOp)(t:TypeId)(py pz:Operand)(x y bK fi:Value){v:Value}(h:MB P op t (u1 py||u1 pz) x y=some v)(ao:cg σ x bK)(ba:cg σ y fi)
  (aX:M0 bK=true) (w:World):
  ∃aQ,(do eqGuard op t py pz bK fi;binOp op t bK fi).run P w=.ok aQ w/\cg σ v aQ:=by
 obtain⟨ad,af⟩:=ahR t bK fi aX;cases op<;>simp only[MB]at h<;>try cases h
 case eql=>
  split at h
  ·rename_i hg;cases b5:nZ P 100 t x y with
   | none=>simp_all
   | some b=>
    simp[b5]at h;subst h;refine⟨.bool b,?_,.bool⟩;have U:=It 100 t x y b bK fi b5 ao ba 10000 w (by omega)
    grind[Sem.run_bind,Uo,Result.andThen_ok,Op.equal,Op.maxDepth,Sem.run_pure]
  ·cases h
 case neq=>
  split at h
  ·rename_i hg;cases b5:nZ P 100 t x y with
   | none=>simp_all
   | some b=>
    simp[b5]at h;subst h;refine⟨.bool (!b),?_,.bool⟩;have U:=It 100 t x y b bK fi b5 ao ba 10000 w (by omega)
    grind[Sem.run_bind,Uo,Result.andThen_ok,Op.equal,Op.maxDepth,Sem.run_pure]
  ·cases h
theorem ahT(op:BinOp)(t:TypeId)(py pz:Operand)(x y bK fi:Value){v:Value}(h:(ay P op t (u1 py||u1 pz)).f x y=some v)(ao:cg σ x bK)(ba:cg σ y fi)(w:World):
  ∃aQ,(do eqGuard op t py pz bK fi;binOp op t bK fi).run P w=.ok aQ w/\cg σ v aQ:=by
 unfold ay at h;cases aw:CC op with
 | some l=>
  simp only[aw]at h;cases x<;>simp only at h<;>try cases h
  rename_i k a;cases y<;>simp only at h<;>try cases h
  rename_i fh b;rw[ao.oz,ba.oz]
  grind[ahQ]
 | none=>
  simp only[aw]at h;cases x
  case int k a=>
   simp only at h;cases y<;>simp only at h<;>try cases h
   rename_i fh b;split at h
   ·rename_i ag;rw[ao.oz,ba.oz,<- Ul ag]
    grind[ahN]
   ·cases h
  case string a=>
   simp only at h;cases y<;>simp only at h<;>try cases h
   rename_i b;rw[ao.yQ,ba.yQ]
   grind[ahP]
  case float=>cases h
  case complex=>cases h
  all_goals
   refine ahS op t py pz _ y bK fi h ao ba ?_ w;cases ao<;>rfl
theorem ahU(op:UnOp)(x bK:Value){v:Value}(h:hE op x=some v)(ao:cg σ x bK)(w:World):∃aQ,(Op.unary op bK).run P w=.ok aQ w/\cg σ v aQ:=by
 unfold hE at h;cases x<;>simp only at h<;>try cases h
 case int k n=>
  rw[ao.oz];cases op<;>simp only at h<;>cases h
  ·exact⟨_,by simp[Op.unary,Op.intArith,tV],.int⟩
  ·refine⟨_,?_,.int⟩
   simp_all[Op.unary,Op.intBits,tV,Iq]
 case bool b=>rw[ao.Ir];cases op<;>simp only at h<;>cases h;exact⟨_,rfl,.bool⟩
def gG(P:Program)(B:Nat)(s:Sem Value)(w:World)(σ:cQ)(h:Nat->Option az)(H:au)(v:Value)(ab:au):Prop:=
 ∃aQ aL τ,s.run P w=.ok aQ aL/\cg τ v aQ/\kb B σ h H.next w τ (h6 h H ab) ab.next aL
theorem gG.pure{B:Nat}{s:Sem Value}{w:World}{h:Nat->Option az}{H:au}{v:Value}(aw:jq σ B h w)(U:∃aQ,s.run P w=.ok aQ w/\cg σ v aQ):gG P B s w σ h H v H:=by obtain⟨aQ,ad,af⟩:=U;exact⟨aQ,w,σ,ad,af,by grind[AD,kb.refl]⟩
theorem Na{h:Nat->Option az}{H:au}{ar:List Value}{w:World}{B:Nat}(aw:jq σ B h w)(e4:σ H.next=none)(i:Nat)(b:az)
  (bD:h6 h H ⟨H.t.set H.next (some ⟨ar,true⟩),Nat.succ H.next,H.dy,H.dO⟩ i=some b):(i=H.next/\b=⟨ar,true⟩)\/(i≠H.next/\h i=some b):=by
 have aX:h H.next=none:=by
  cases hh:h H.next with
  | none=>rfl
  | some b=>obtain⟨c,o,s,_,_,_,ad,_⟩:=aw.fu _ _ hh;simp_all
 unfold h6 at bD;by_cases aq:i=H.next
 ·subst aq;split at bD
  ·simp_all
  ·rcases Tr.CR _ _ _ _ _ bD with⟨_,af⟩|⟨ad,_⟩
   ·simp_all
   omega
 simp_all[au.get,Tr.lL]
theorem Up{B:Nat}{h:Nat->Option az}{H:au}{w:World}(aw:jq σ B h w)(ck:B<=w.heap.size)(e4:σ H.next=none)(ar bx dP:List Value)(t:TypeId)(et:Nat×Nat)(aA:bG σ ar bx)
  (cJ:et.1<=et.2/\∀i,i<bx.length+dP.length->(et.1<=i&&i<et.2)=false) (k:Nat):
  ∃ τ,τ H.next=some (w.heap.size,0,bx.length+dP.length)/\kb B σ h H.next w τ (h6 h H ⟨H.t.set H.next (some ⟨ar,true⟩),Nat.succ H.next,H.dy,H.dO⟩) (H.next+1)
   {w with heap:=w.heap.push (.cells (bx++dP).toArray t et),drawn:=k}:=
 ⟨_,if_pos rfl,Uh aw ck H.next e4 ar bx dP t et aA cJ k _ fun i b bD=>Na aw e4 i b bD⟩
theorem Uq{B:Nat}{h:Nat->Option az}{H ab:au}{w:World}{v:Value}(aw:jq σ B h w)(ck:B<=w.heap.size)(e4:∀i,H.next<=i->i<ab.next->σ i=none)(ar:List Value)(aU:Value)(t:TypeId)(aA:bG σ ar aU.cells.toList)
  (aX:xf ar H=some (v,ab)):gG P B (do pure (.pointer (some (<- newVar t aU)))) w σ h H v ab:=by
 simp only[xf,au.cN]at aX;cases aX;obtain⟨τ,ad,af⟩:=Up aw ck (e4 H.next (Nat.le_refl _) (Nat.lt_succ_self _)) ar aU.cells.toList [] t (0,0) aA (by simp) w.drawn;refine⟨.pointer (some ⟨w.heap.size,0,none⟩),_,τ,?_,.ak _ _ _ 0 _ ad .nil,af⟩;simp[newVar,newRow]
theorem Ur{τ:cQ}{id len size c s:Nat}(h:τ id=some (c,0,s))(aw:0<size)(aD:len*size<=s):cg τ (.slice (some ⟨id,0,none⟩) len (2*size+1)) (.slice (some ⟨c,0,none⟩) len len):=
 .oy id 0 len size c 0 s _ h aw (.inr ⟨by simp,by omega⟩) .nil
theorem CU{τ:cQ}{id len size cap c s:Nat}(h:τ id=some (c,0,s))(aw:0<size)(aD:len<=cap)(aA:cap*size<=s):cg τ (.slice (some ⟨id,0,none⟩) len (2*size)) (.slice (some ⟨c,0,none⟩) len cap):=
 .n5 id 0 len size cap c 0 s _ h aw aD (.inl ⟨by simp,by omega⟩) .nil
end
end Go.Ab
namespace Go.Ab
open Go
section
variable{P:Program}{σ:cQ}{B:Nat}{h:Nat->Option az}{H ab:au}{w:World}
def Fm(h:Nat->Option az)(H:au)(id:Nat):Prop:=∀b,H.get id=some b->h id=some b
def tX(h:Nat->Option az)(H:au)(v:Value):Prop:=∀id,CO v=some id->Fm h H id
theorem AL{id off n:Nat}{l:List Value}(aw:jq σ B h w)(br:Fm h H id)(U:rZ H id off n=some l){c o s:Nat}(eg:σ id=some (c,o,s)):
  ∃aG,(loadCells ⟨c,o+off,none⟩ n).run P w=.ok aG.toArray w/\bG σ l aG/\l.length=n:=by
 rw[AB]at U;cases hg:H.get id with
 | none=>simp_all
 | some b=>
  rw[hg]at U;simp only[xe,mD,nE,gX]at U;cases b5:Nat.beq ((b.cells.drop off).take n).length n with
  | false=>simp_all
  | true=>
   rw[b5]at U;cases U;have aD:=Nat.eq_of_beq_eq_true b5;obtain⟨cC,dv,cm,dk,c2,et,bn,bF,ey,i6,hQ,_⟩:=aw.fu id b (br b hg);rw[eg]at bn;cases bn;have xo:off+n<=b.cells.length\/n=0:=by grind
   refine⟨(dk.toList.drop (o+off)).take n,?_,?_,aD⟩
   ·rcases xo with xo|rfl
    ·grind[ahD]
    rfl
   ·rcases xo with xo|rfl
    ·have:=(hQ.drop off).take n
     grind[List.drop_take,List.drop_drop]
    ·simp;exact .nil
theorem ahV{id off:Nat}{v:Value}(aw:jq σ B h w)(br:Fm h H id)(U:Ar H id off=some v){c o s:Nat}(eg:σ id=some (c,o,s)):
  ∃aQ,(load ⟨c,o+off,none⟩).run P w=.ok aQ w/\cg σ v aQ:=by
 unfold Ar at U;cases hg:H.get id with
 | none=>simp_all
 | some b=>
  rw[hg]at U;simp only[vb]at U;obtain⟨cC,dv,cm,dk,c2,et,bn,bF,ey,i6,hQ,_⟩:=aw.fu id b (br b hg);rw[eg]at bn;cases bn;obtain⟨aQ,ad,af⟩:=hQ.get off v U
  simp_all[List.getElem?_take,World.cell?]
theorem Us{l aG:List Value}(hv:bG σ l aG)(ad:jT eP l=true):∀v∈aG,v.oneCell'=true:=by
 rw[ki]at ad;induction l generalizing aG with
 | nil=>rw[hv.qG];simp
 | cons x r bd=>
  obtain⟨bK,dD,rfl,ao,U⟩:=hv.nc;rw[List.all_cons,Bool.and_eq_true]at ad;intro v aV;rcases List.mem_cons.1 aV with rfl|aV
  ·cases ao<;>first|rfl|(exact absurd ad.1 (by simp[eP]))
  grind
theorem Iu{id off:Nat}{bV nd:List Value}(aw:jq σ B h w)(br:Fm h H id)(U:uZ H id off bV=some ab)(hv:bG σ bV nd){c o s:Nat}(eg:σ id=some (c,o,s))(n:Nat):
  ∃aL,(storeCells ⟨c,o+off,none⟩ nd).run P w=.ok () aL/\kb B σ h n w σ (h6 h H ab) n aL/\ab.next=H.next:=by
 rw[Ij]at U;cases hg:H.get id with
 | none=>simp_all
 | some b=>
  rw[hg]at U;simp only at U;split at U
  ·rename_i aA;cases U;simp only[Bool.and_eq_true,au.ou,gX,l3,decide_eq_true_eq]at aA;obtain⟨⟨aM,_⟩,hlen,ad⟩:=aA;obtain⟨cC,dv,cm,dk,c2,et,bn,bF,ey,i6,hQ,iG⟩:=aw.fu id b (br b hg);rw[eg]at bn;cases bn;have Ui:=hv.length;have fT:=MQ (P:=P) c (o+off) c2 et nd 0 dk w bF (by omega) (Us hv ad) (fun j bp=>(iG aM).2 j (by omega));refine⟨_,fT,?_,rfl⟩;refine ahH aw id off b (br b hg) aM bV nd hv hlen c o s dk c2 et eg bF _ ?_;intro i dE bD;simp only[iF,mD,nE,gX]at bD;unfold h6 at bD;by_cases aq:i=id
   ·subst aq;left;refine⟨rfl,?_⟩;have xp:(au.set H i (some ⟨b.cells.take off++(bV++b.cells.drop (off+bV.length)),b.wr⟩)).get i=some ⟨b.cells.take off++(bV++b.cells.drop (off+bV.length)),b.wr⟩:=Tr.Uf _ _ _ b hg;rw[xp]at bD;split at bD
    ·rename_i he;rw[hg]at he;rw[br b hg]at bD
     simp_all
    simp_all
   ·right;refine⟨aq,?_⟩;have xp:(au.set H id (some ⟨b.cells.take off++(bV++b.cells.drop (off+bV.length)),b.wr⟩)).get i=H.get i:=Tr.lL _ _ _ _ aq
    simp_all
  grind
theorem Ut{t:TypeId}{a cr v:Value}(aw:jq σ B h w)(br:tX h H a)(hv:cg σ a cr)(U:(n1 P t).f a H=some (v,ab)):
  ab=H/\∃aQ,(Instr.loadAt t cr).run P w=.ok aQ w/\cg σ v aQ:=by
 unfold n1 at U;cases b5:p4 P t with
 | none=>simp_all
 | some b=>
  cases eu:gM P t with
  | none=>simp_all
  | some n=>
   have key:∀id off cF,a=.pointer (some ⟨id,off,cF⟩)->cF=none/\∃c o s,cr=.pointer (some ⟨c,o+off,none⟩)/\σ id=some (c,o,s):=by intro id off cF e;subst e;exact hv.Fk
   cases b with
   | true=>
    simp only[b5,eu,ch]at U;cases a<;>simp only at U<;>try cases U
    rename_i a0;cases a0 with
    | none=>cases U
    | some a0=>
     obtain⟨id,off,cF⟩:=a0;obtain⟨rfl,c,o,s,rfl,eg⟩:=key id off cF rfl;simp only at U;cases aD:rZ H id off n with
     | none=>simp_all
     | some l=>
      rw[aD]at U;cases U;obtain⟨aG,ad,af,_⟩:=AL (P:=P) aw (br id rfl) aD eg
      simp_all[cg.dk,Instr.loadAt,Instr.sureAddr,loadVar,MT,oA]
   | false=>
    simp only[b5,eu,aB]at U;cases a<;>simp only at U<;>try cases U
    rename_i a0;cases a0 with
    | none=>cases U
    | some a0=>
     obtain⟨id,off,cF⟩:=a0;obtain⟨rfl,c,o,s,rfl,eg⟩:=key id off cF rfl;simp only at U;cases aD:Ar H id off with
     | none=>rw[aD]at U;cases U
     | some aU=>
      rw[aD]at U;cases U;obtain⟨aQ,ad,af⟩:=ahV (P:=P) aw (br id rfl) aD eg
      simp_all[Instr.loadAt,Instr.sureAddr,loadVar,MT]
theorem ahW{t:TypeId}{n:Nat}(eu:gM P t=some n){a cr x bK v:Value}(aw:jq σ B h w)(br:tX h H a)(hv:cg σ a cr)(ao:cg σ x bK)(U:bC n a x H=some (v,ab)):
  v=undef/\ab.next=H.next/\∃aL,(Instr.storeAt t cr bK).run P w=.ok () aL/\kb B σ h H.next w σ (h6 h H ab) ab.next aL:=by
 unfold bC at U;cases a<;>simp only at U<;>try cases U
 rename_i a0;cases a0 with
 | none=>cases U
 | some a0=>
  obtain⟨id,off,cF⟩:=a0;obtain⟨rfl,c,o,s,rfl,eg⟩:=hv.Fk;simp only at U;split at U
  ·rename_i b5;cases aM:uZ H id off (dp x)with
   | none=>simp_all
   | some bw=>
    rw[aM]at U;cases U;obtain⟨aL,ad,af,ax⟩:=Iu (P:=P) aw (br id rfl) aM ao.cells eg H.next;refine⟨rfl,ax,aL,?_,by simp_all⟩;have hlen:bK.cells.size=n:=by
     have:=ao.cells.length
     simp_all[gX]
    simp_all[Instr.storeAt,Instr.sureAddr,storeVar,oA]
  grind
theorem Iv(iX:Nat->Option (Nat×Nat)):∀(hD:List (Nat×Value)) (pA:List (Nat×Value)) (cells:List Value) (wm:Array Value) (l:List Value),
  bG σ cells wm.toList->hD.map (·.1)=pA.map (·.1)->bG σ (hD.map (·.2)) (pA.map (·.2))->u0 iX cells hD=some l->
  ∃aG,Instr.fill iX wm pA=some aG/\bG σ l aG.toList
 | [],pA,cells,wm,l,aA,ad,_,hf=>by
  cases pA with
  | nil=>cases hf;exact⟨wm,rfl,aA⟩
  | cons _ _=>cases ad
 |(i,v)::dP,pA,cells,wm,l,aA,ad,af,hf=>by
  cases pA with
  | nil=>cases ad
  | cons p ahX=>
   obtain⟨xi,aQ⟩:=p;simp only[List.map_cons,List.cons.injEq]at ad;obtain⟨rfl,ad⟩:=ad;simp only[List.map_cons]at af;obtain⟨Uu,aBb,e,hv,U⟩:=af.nc;cases e;unfold u0 at hf;unfold Instr.fill;cases bM:iX i with
   | none=>simp_all
   | some os=>
    obtain⟨off,size⟩:=os;rw[bM]at hf;simp only at hf⊢;split at hf
    ·rename_i b5;simp only[gX,l3,Bool.and_eq_true,decide_eq_true_eq]at b5;have bn:=Nat.eq_of_beq_eq_true b5.1;have rn:=hv.cells;have bF:=rn.length;have ey:aQ.cells.toList.length=aQ.cells.size:=Array.length_toList;have i6:=aA.length;have hQ:wm.toList.length=wm.size:=Array.length_toList;rw[if_neg (by grind)];refine Iv iX dP ahX _ _ l ?_ ad U hf;rw[iF,iF,mD,nE,gX];have key:(aQ.cells.zipIdx.foldl (fun ar (x:Value×Nat)=>ar.setIfInBounds (off+x.2) x.1) wm).toList=wm.toList.take off++(aQ.cells.toList++wm.toList.drop (off+aQ.cells.toList.length)):=by
      rw[<- Array.foldl_toList,Array.toList_zipIdx];have Iw:∀(bV:List Value) (k:Nat) (ar:Array Value),off+k+bV.length<=ar.size->
        ((bV.zipIdx k).foldl (fun ar (x:Value×Nat)=>ar.setIfInBounds (off+x.2) x.1) ar).toList=ar.toList.take (off+k)++bV++ar.toList.drop (off+k+bV.length):=by
       intro bV;induction bV with
       | nil=>simp_all
       | cons x r bd=>intro k ar ag;simp only[List.zipIdx_cons,List.foldl_cons];simp only[List.length_cons]at ag;have aq:=bd (k+1) (ar.setIfInBounds (off+k) x) (by grind);rw[show off+(k+1)=off+k+1 by omega]at aq;rw[aq,Array.toList_setIfInBounds];have e:=list_seg_step ar.toList (off+k) x r (by omega);omega
      simp_all
     rw[key,<- bF];exact(aA.take off).append (rn.append (aA.drop (off+(dp v).length)))
    grind
theorem ahY(l:List (Nat×Operand))(T:List Value):(tP l T).map (·.1)=l.map (·.1)/\(tP l T).map (·.2)=l.map fun p=>(ee p.2).g T:=by
 induction l with
 | nil=>exact⟨rfl,rfl⟩
 | cons p r bd=>obtain⟨i,o⟩:=p;exact⟨by show i::_=_;grind,by show(ee o).g T::_=_;grind⟩
theorem ahZ(mY:Array Field){f:Field->Option (Nat×Nat)}(hf:∀x∈mY.toList,∃n,f x=some (x.offset,n)/\∀w,(sizeOf x.type).run P w=.ok n w)(w:World):
  ∃Ix:Array (Nat×Nat),(mY.mapM fun(x:Field)=>(do pure (x.offset,<- sizeOf x.type):Sem (Nat×Nat))).run P w=.ok Ix w/\∀i:Nat,Ix[i]?=(mY.toList[i]?).bind f:=by
 have Iw:∀(l:List Field),(∀x∈l,∃n,f x=some (x.offset,n)/\∀w,(sizeOf x.type).run P w=.ok n w)->
   ∃bz:List (Nat×Nat),(l.mapM fun(x:Field)=>(do pure (x.offset,<- sizeOf x.type):Sem (Nat×Nat))).run P w=.ok bz w/\∀i:Nat,bz[i]?=(l[i]?).bind f:=by
  intro l;induction l with
  | nil=>simp_all
  | cons x r bd=>
   intro ao;obtain⟨n,ad,af⟩:=ao x (by simp);obtain⟨bz,ax,aO⟩:=bd fun y ba=>ao y (by simp[ba])
   refine⟨(x.offset,n)::bz,?_,?_⟩
   ·simp_all
   grind
 obtain⟨bz,ad,af⟩:=Iw mY.toList hf
 simp_all[Array.mapM_eq_mapM_toList]
theorem Iy{z:Value}:z.cells.toList=dp z:=by cases z<;>rfl
theorem ah0{t:TypeId}{hD pA:List (Nat×Value)}{v:Value}(U:(di P t).f hD=some v)(ad:hD.map (·.1)=pA.map (·.1))(af:bG σ (hD.map (·.2)) (pA.map (·.2)))(w:World):
  ∃aQ,(Instr.build t pA.toArray).run P w=.ok aQ w/\cg σ v aQ:=by
 unfold di at U;cases eu:h3 P t with
 | none=>simp_all
 | some z=>
  obtain⟨nf,oB⟩:=sZ eu w;have dq:bG σ (dp z) z.cells.toList:=(vc oB).cells;rw[eu]at U;simp only at U;cases bD:P.underlying t with
  | none=>simp_all
  | some iH=>
   rw[bD]at U;cases iH<;>simp only at U<;>try cases U
   case struct mY=>
    split at U
    ·rename_i CV;rw[ki,List.all_eq_true]at CV;simp only at U
     let f:Field->Option (Nat×Nat):=fun x=>(gM P x.type).map fun n=>(x.offset,n)
     obtain⟨Ix,dK,bI⟩:=ahZ (P:=P) mY (f:=f) (fun x ao=>by
      have:=CV x ao;cases aw:gM P x.type with
      | none=>simp_all
      | some n=>exact⟨n,by grind,fun w=>oA aw w⟩) w
     have nF:(fun i:Nat=>Ix[i]?)=HX P mY.toList:=by grind[HX,vb]
     cases hf:u0 (HX P mY.toList) (dp z) hD with
     | none=>rw[hf]at U;cases U
     | some l=>
      rw[hf]at U;cases U;obtain⟨aG,gr,fZ⟩:=Iv _ hD pA _ _ l dq ad af hf;rw[<- nF]at gr;refine⟨.agg aG,?_,.agg _ _ (by omega) .nil⟩
      simp_all[Instr.build,run_underlying]
    grind
   case array n e=>
    cases aw:gM P e with
    | none=>simp_all
    | some size=>
     rw[aw]at U;simp only at U;cases hf:u0 (fun i=>some (i*size,size)) (dp z) hD with
     | none=>rw[hf]at U;cases U
     | some l=>
      rw[hf]at U;cases U;obtain⟨aG,gr,fZ⟩:=Iv _ hD pA _ _ l dq ad af hf;refine⟨.agg aG,?_,.agg _ _ (by omega) .nil⟩
      simp_all[Instr.build,run_underlying,oA]
theorem Iz(n:Nat)(z:Array Value):((Array.range (n*z.size)).map fun i=>z[i%z.size]!).toList=fS n z.toList:=by
 have key:∀(n:Nat),(List.range (n*z.size)).map (fun i=>z[i%z.size]!)=fS n z.toList:=by
  intro n;induction n with
  | zero=>simp[fS]
  | succ n bd=>
   rw[show fS (n+1) z.toList=z.toList++fS n z.toList by show hT _ _=_;rw[iF]];rw[Nat.succ_mul,Nat.add_comm,List.range_add,List.map_append,List.map_map]
   congr 1
   ·apply List.ext_getElem?
    grind[Nat.mod_eq_of_lt]
   simp_all[List.map_congr_left]
 simp_all
theorem bG.fS(n:Nat){l aG:List Value}(aD:bG σ l aG):bG σ (fS n l) (fS n aG):=by
 induction n with
 | zero=>exact .nil
 | succ n bd=>
  have e:∀m:List Value,Ab.fS (n+1) m=m++Ab.fS n m:=fun m=>by show hT _ _=_;rw[iF]
  rw[e,e];exact aD.append bd
theorem IA(n:Nat)(l:List Value):(fS n l).length=n*l.length:=by
 induction n with
 | zero=>simp[fS]
 | succ n bd=>grind[fS,iF]
end
end Go.Ab
namespace Go.Ab
open Go
section
variable{P:Program}{σ:cQ}{B:Nat}{h:Nat->Option az}{H ab:au}{w:World}
theorem ah1{t:TypeId}{n:Nat}(h:(P.info? t).map (·.bytes)=some n):∃i,P.info? t=some i/\i.bytes=n:=by simp_all
theorem CW{v:Value}{ar bx dP:List Value}{len c:Nat}(aw:jq σ B h w)(ck:B<=w.heap.size)(e4:∀i,H.next<=i->i<ab.next->σ i=none)(aA:bG σ ar bx)(t:TypeId)(et:Nat×Nat)
  (cJ:et.1<=et.2/\∀i,i<bx.length+dP.length->(et.1<=i&&i<et.2)=false) (k:Nat) (aX:l1 ar len c H=some (v,ab)):
  ∃ τ id,v=.slice (some ⟨id,0,none⟩) len c/\τ id=some (w.heap.size,0,bx.length+dP.length)/\
   kb B σ h H.next w τ (h6 h H ab) ab.next {w with heap:=w.heap.push (.cells (bx++dP).toArray t et),drawn:=k}:=by
 simp only[l1,au.cN]at aX;cases aX
 simp_all[Up]
theorem ah2{t:TypeId}{l aG c cC v:Value}(aw:jq σ B h w)(ck:B<=w.heap.size)(e4:∀i,H.next<=i->i<ab.next->σ i=none)(aD:cg σ l aG)(aA:cg σ c cC)
  (U:(qF P t).f l c H=some (v,ab)):gG P B (Instr.makeSlice t aG cC) w σ h H v ab:=by
 unfold qF at U;split at U
 case h_2=>cases U
 case h_1 e bD=>
 split at U
 case h_2=>cases U
 case h_1 size z bytes iI la ah3=>
 split at U
 case isFalse=>cases U
 case isTrue b5=>
 simp only[Bool.and_eq_true,blt_eq,gX,decide_eq_true_eq]at b5;obtain⟨Fo,sa⟩:=b5;have sa:=Nat.eq_of_beq_eq_true sa;unfold tO at U;cases l<;>simp only at U<;>try cases U
 rename_i k n;cases c<;>simp only at U<;>try cases U
 rename_i hx m;rw[aD.oz,aA.oz];split at U
 case isFalse=>cases U
 case isTrue dm=>
 split at U
 case isFalse=>cases U
 case isTrue da=>
 split at U
 case isFalse=>cases U
 case isTrue a3=>
 simp only[Bool.and_eq_true,l3,decide_eq_true_eq]at a3;obtain⟨a3,a4⟩:=a3;obtain⟨qH,aq,vf⟩:=ah1 ah3;have eU:qH.size=size:=by simp_all[gM]
 obtain⟨nf,oB⟩:=sZ la w;have dq:bG σ (dp z) z.cells.toList:=(vc oB).cells;have qa:z.cells.size=size:=by grind[Iy]
 have ah4:bG σ (fS n.toNat (dp z)) (fS n.toNat z.cells.toList):=dq.fS _;have CX:IntKind.i64.wrap n=n:=by rw[IntKind.wrap_i64];omega
 have vg:IntKind.i64.wrap m=m:=by rw[IntKind.wrap_i64];omega
 have CY:n.toNat<=m.toNat:=by omega
 obtain⟨d,aJ⟩:∃d,m.toNat=n.toNat+d:=⟨m.toNat-n.toNat,by omega⟩;have aBc:fS m.toNat z.cells.toList=fS n.toNat z.cells.toList++fS d z.cells.toList:=by
  rw[aJ];generalize n.toNat=a;induction a with
  | zero=>simp[fS]
  | succ a bd=>grind[fS,iF]
 obtain⟨τ,id,rfl,lN,hg⟩:=CW (dP:=fS d z.cells.toList) aw ck e4 ah4 e (0,0) (by simp) w.drawn U;have hlen:(fS n.toNat z.cells.toList).length+(fS d z.cells.toList).length=m.toNat*size:=by simp_all[IA,Nat.add_mul]
 rw[hlen]at lN;refine⟨.slice (some ⟨w.heap.size,0,none⟩) n.toNat m.toNat,_,τ,?_,?_,hg⟩
 ·have s0:((bytes:Int)*m>2^48)=False:=by grind
  have Uv:((decide (m<0)||decide ((bytes:Int)*m>2^48)||decide (n<0)||decide (n>m))=true)=False:=by grind
  simp only[Instr.makeSlice,Sem.run_bind,run_underlying bD,Result.andThen_ok,asInt,asIntOf,Sem.run_pure,typeInfo,run_program,aq,CX,vg,vf];rw[Sem.run_ite];rw[if_neg (fun hh=>by grind)];simp only[Sem.run_bind,run_askRoom,Result.andThen_ok,oA iI];by_cases aR:m.toNat*size=0
  ·simp_all[Array.eq_empty_of_size_eq_zero,newRow]
  ·rw[if_neg aR];simp only[Sem.run_bind,nf,Result.andThen_ok,Sem.run_pure,newRow,run_newObj]
   grind[Iz,Array.range]
 ·rw[rm];by_cases hnm':n=m
  ·subst hnm';simp only[decide_true,cond];exact Ur lN Fo (Nat.le_refl _)
  simp_all[CU]
theorem Uw(iX:Nat->Option (Nat×Nat)):∀(hD:List (Nat×Value)) (cells l:List Value),u0 iX cells hD=some l->l.length=cells.length
 | [],cells,l,hf=>by cases hf;rfl
 |(i,v)::dP,cells,l,hf=>by
  unfold u0 at hf;cases bM:iX i with
  | none=>simp_all
  | some os=>
   obtain⟨off,size⟩:=os;rw[bM]at hf;simp only at hf;split at hf
   ·rename_i b5;simp only[gX,l3,Bool.and_eq_true,decide_eq_true_eq]at b5;have:=Uw iX dP _ l hf
    grind[iF,mD,nE,gX]
   grind
theorem ah5{t:TypeId}{len:Nat}{hD pA:List (Nat×Value)}{v:Value}(aw:jq σ B h w)(ck:B<=w.heap.size)(e4:∀i,H.next<=i->i<ab.next->σ i=none)
  (U:(eY P t len).f hD H=some (v,ab)) (ad:hD.map (·.1)=pA.map (·.1)) (af:bG σ (hD.map (·.2)) (pA.map (·.2))):
  gG P B (Instr.buildSlice t len pA.toArray) w σ h H v ab:=by
 unfold eY at U;split at U
 case h_2=>cases U
 case h_1 e bD=>
 split at U
 case h_2=>cases U
 case h_1 size iI=>
 split at U
 case h_2=>cases U
 case h_1 z la=>
 split at U
 case h_2=>cases U
 case h_1 b5=>
 simp only[Bool.and_eq_true,blt_eq,l3,gX,decide_eq_true_eq]at b5;obtain⟨Ux,Fo,sa⟩:=b5;have sa:=Nat.eq_of_beq_eq_true sa;obtain⟨nf,oB⟩:=sZ la w;have dq:bG σ (dp z) z.cells.toList:=(vc oB).cells;have qa:z.cells.size=size:=by grind[Iy]
 simp only[HZ]at U;cases hf:u0 (fun i=>some (i*size,size)) (fS len (dp z)) hD with
 | none=>simp_all
 | some ar=>
  rw[hf]at U;simp only at U;have he:=Iz len z.cells;rw[qa]at he;obtain⟨aG,gr,fZ⟩:=Iv _ hD pA (fS len (dp z)) ((Array.range (len*size)).map fun i=>z.cells[i%size]!) ar (by rw[he];exact dq.fS len) ad af hf;obtain⟨τ,id,rfl,lN,hg⟩:=CW (dP:=[]) aw ck e4 fZ e (0,0) (by simp) w.drawn U;refine⟨.slice (some ⟨w.heap.size,0,none⟩) len len,_,τ,?_,Ur lN Fo (by rw[<- fZ.length,Uw _ _ _ _ hf,IA,sa];simp),hg⟩;simp only[Instr.buildSlice,Sem.run_bind,run_underlying bD,Result.andThen_ok,oA iI];rw[Sem.run_ite,if_neg (by omega)];by_cases aR:len*size=0
  ·simp_all[Array.eq_empty_of_size_eq_zero,newRow]
  simp_all[newRow]
end
end Go.Ab
namespace Go.Ab
open Go
section
variable{P:Program}{σ:cQ}{B:Nat}{h:Nat->Option az}{H:au}{w:World}
theorem ah6{n:Nat}(aw:jq σ B h w)(id:Nat)(b bN:az)(an:h id=some b)(aM:b.wr=true)(c o s:Nat)(dk r8:Array Value)(c2:TypeId)(et:Nat×Nat)(ad:σ id=some (c,o,s))
  (af:w.heap[c]?=some (.cells dk c2 et)) (eU:r8.size=dk.size) (CZ:o+bN.cells.length<=s) (hv:bG σ bN.cells ((r8.toList.drop o).take bN.cells.length))
  (a7:Nat->Option az) (aD:∀i dE,a7 i=some dE->(i=id/\dE=bN)\/(i≠id/\h i=some dE)):
  kb B σ h n w σ a7 n (w.setRow c r8):=by
 obtain⟨cC,dv,cm,aBd,Uj,Il,bn,bF,ey,i6,hQ,iG⟩:=aw.fu id b an;rw[ad]at bn;cases bn;rw[af]at bF;cases bF;have eT:∀j fY,j≠id->h j=some fY->∀cC dv cm,σ j=some (cC,dv,cm)->cC≠c:=fun j fY dj bp cC dv cm gF e=>aw.kM id j b fY (Ne.symm dj) an bp aM c o s cC dv cm ad gF e.symm
 refine⟨⟨?_,?_,?_⟩,Nat.le_refl _,fun _ _=>rfl,fun _ _ h=>h,rfl,rfl,rfl,by simp,?_,?_⟩
 ·intro i dE jV;rcases aD i dE jV with⟨rfl,rfl⟩|⟨dj,p9⟩
  ·exact⟨c,o,s,r8,c2,et,ad,setRow_heap w c dk _ c2 et af,eU.trans ey,CZ,hv,fun _=>iG aM⟩
  ·obtain⟨cp,dt,cw,AI,AJ,xn,bX,b7,g3,g4,g5,kO⟩:=aw.fu i dE p9;refine⟨cp,dt,cw,AI,AJ,xn,bX,?_,g3,g4,g5,kO⟩
   grind[setRow_other]
 ·intro i dE jV ve;rcases aD i dE jV with⟨rfl,rfl⟩|⟨dj,p9⟩
  ·exact aw.own i b an aM
  ·exact aw.own i dE p9 ve
 ·intro i j hY fY dj aq bp AK db bW c4 cp dt cw bX b7;rcases aD i hY aq with⟨wi,rfl⟩|⟨vd,gN⟩
  ·grind
  ·rcases aD j fY bp with⟨AG,rfl⟩|⟨yO,o2⟩
   ·grind
   ·exact aw.kM i j hY fY dj gN o2 AK db bW c4 cp dt cw bX b7
 ·intro k ag Fj;refine setRow_other w c k _ ?_;intro e;subst e;exact Fj ⟨id,b,o,s,an,aM,ad⟩
 ·rintro k ⟨i,dE,dv,cm,jV,ve,gF⟩ _;rcases aD i dE jV with⟨rfl,rfl⟩|⟨dj,p9⟩
  ·exact⟨i,b,dv,cm,an,aM,gF⟩
  ·exact⟨i,dE,dv,cm,p9,ve,gF⟩
theorem ah7(aw:jq σ B h w)(id k off:Nat)(b:az)(an:h id=some b)(aM:b.wr=true)(c o s:Nat)(ad:σ id=some (c,o,s))(ag:σ k=none)(IB:off<=b.cells.length)
  (a7:Nat->Option az) (aD:∀i dE,a7 i=some dE->(i=k/\dE=⟨b.cells.drop off,true⟩)\/(i≠k/\i≠id/\h i=some dE)):
  kb B σ h k w (fun i=>if i=k then some (c,o+off,s)else σ i) a7 (k+1) w:=by
 let τ:cQ:=fun i=>if i=k then some (c,o+off,s)else σ i
 have AF:∀i x,σ i=some x->τ i=some x:=fun i x ao=>by grind
 have IC:τ k=some (c,o+off,s):=if_pos rfl;have lN:∀i,i≠k->τ i=σ i:=fun i dj=>if_neg dj
 obtain⟨cC,dv,cm,dk,c2,et,bn,bF,ey,i6,hQ,iG⟩:=aw.fu id b an;rw[ad]at bn;cases bn;refine⟨⟨?_,?_,?_⟩,by omega,fun i aq=>if_neg (by omega),AF,rfl,rfl,rfl,Nat.le_refl _,fun _ _ _=>rfl,?_⟩
 ·intro i dE jV;rcases aD i dE jV with⟨rfl,rfl⟩|⟨dj,_,p9⟩
  ·refine⟨c,o+off,s,dk,c2,et,IC,bF,ey,by grind,?_,fun _=>iG aM⟩;have:=(hQ.drop off).mono AF
   grind[List.drop_take,List.drop_drop]
  ·obtain⟨cp,dt,cw,AI,AJ,xn,bX,b7,g3,g4,g5,kO⟩:=aw.fu i dE p9;exact⟨cp,dt,cw,AI,AJ,xn,(lN i dj).trans bX,b7,g3,g4,g5.mono AF,kO⟩
 ·intro i dE jV ve;rcases aD i dE jV with⟨rfl,rfl⟩|⟨dj,_,p9⟩
  ·obtain⟨cp,dt,cw,bX,b7⟩:=aw.own id b an aM
   simp_all
  ·obtain⟨cp,dt,cw,bX,b7⟩:=aw.own i dE p9 ve
   simp_all
 ·intro i j hY fY dj aq bp AK db bW c4 cp dt cw bX b7;have bX:τ i=some (db,bW,c4):=bX;have b7:τ j=some (cp,dt,cw):=b7;rcases aD i hY aq with⟨wi,rfl⟩|⟨vd,ah8,gN⟩
  ·rcases aD j fY bp with⟨AG,rfl⟩|⟨yO,Uy,o2⟩
   ·omega
   ·rw[wi,IC]at bX;cases bX;rw[lN j yO]at b7;exact aw.kM id j b fY (Ne.symm Uy) an o2 aM _ _ _ _ _ _ ad b7
  ·rw[lN i vd]at bX;rcases aD j fY bp with⟨AG,rfl⟩|⟨yO,Uy,o2⟩
   ·rw[AG,IC]at b7;cases b7;intro e;exact aw.kM id i b hY (Ne.symm ah8) an gN aM _ _ _ _ _ _ ad bX e.symm
   ·rw[lN j yO]at b7;exact aw.kM i j hY fY dj gN o2 AK db bW c4 cp dt cw bX b7
 ·rintro o3 ⟨i,dE,dv,cm,jV,ve,gF⟩ _;have gF:τ i=some (o3,dv,cm):=gF;rcases aD i dE jV with⟨wi,rfl⟩|⟨dj,_,p9⟩
  ·rw[wi,IC]at gF;cases gF;exact⟨id,b,o,s,an,aM,ad⟩
  ·exact⟨i,dE,dv,cm,p9,ve,(lN i dj).symm.trans gF⟩
theorem ID{x bK:Value}{n:Nat}(ao:cg σ x bK)(U:mZ x=some n):(Builtin.lenOf bK).run P w=.ok n w:=by
 unfold mZ at U;cases ao<;>simp only at U<;>cases U
 ·rename_i s _;show Result.ok s.size w=_
  simp_all[gX]
 all_goals rfl
theorem IE{size n m:Nat}{x bK:Value}{l:List Value}(aw:jq σ B h w)(br:tX h H x)(ao:cg σ x bK)(aV:mZ x=some m)(aX:n<=m)(U:sU H size n x=some l):
  ∃aG,(Builtin.firstCells size n bK).run P w=.ok aG.toArray w/\bG σ l aG/\l.length=n*size:=by
 unfold sU at U;cases ao<;>simp only at U<;>try cases U
 case string s _=>
  split at U
  ·rename_i ad;cases U;have ad:=Nat.eq_of_beq_eq_true ad;subst ad;have Nb:s.data.toList.length=m:=by grind[mZ,gX]
   refine⟨(s.data.toList.take n).map v7,?_,by rw[mD];exact bG.Ud .u8 (fun b:UInt8=>((b.toNat:Nat):Int)) _,?_⟩
   ·show Result.ok ((s.extract 0 n).data.map fun b=>Value.int .u8 b.toNat) w=_
    congr 1
    apply Array.ext';simp;rfl
   simp_all[mD]
  grind
 case mE _=>
  have:n=0:=by grind[mZ]
  subst this;exact⟨[],rfl,.nil,by simp⟩
 case oy id off len o4 c o s a eg bM jJ _=>
  split at U
  ·simp_all[Builtin.firstCells,loadCells,loadCellsFrom]
  ·rename_i aR;have aR:n≠0:=fun e=>by simp_all
   have jJ:a=⟨c,o+off,none⟩:=(jJ.resolve_left (by grind[mZ])).1;subst jJ;obtain⟨aG,ad,af,ax⟩:=AL (P:=P) aw (br id rfl) U eg;exact⟨aG,ad,af,ax⟩
 case n5 id off len o4 cap c o s a eg bM kP jJ _=>
  split at U
  ·simp_all[Builtin.firstCells,loadCells,loadCellsFrom]
  ·rename_i aR;have aR:n≠0:=fun e=>by simp_all
   have jJ:a=⟨c,o+off,none⟩:=by grind[mZ]
   subst jJ;obtain⟨aG,ad,af,ax⟩:=AL (P:=P) aw (br id rfl) U eg;exact⟨aG,ad,af,ax⟩
end
end Go.Ab
namespace Go.Ab
open Go
section
variable{P:Program}{σ:cQ}{B:Nat}{h:Nat->Option az}{H ab:au}{w:World}
theorem Nc(z:Array Value)(n:Nat):(Builtin.zeroCells z n).toList.length=n*z.size:=by simp[Builtin.zeroCells]
theorem Nd{kt ku c2 e:TypeId}(bD:P.underlying kt=some (.slice e))(ao:Ao P ku=true){i:TypeInfo}(aq:P.info? e=some i){z:Value}(eu:h3 P e=some z)
  (qa:z.cells.size=i.size) (Uz:Option Addr) (len cap n:Nat) (x:Value) (old cN:List Value) (hlen:(Builtin.lenOf x).run P w=.ok n w) (yR:cap<len+n) (tY:xg (len+n) i.bytes=true)
  (k8:(Builtin.firstCells i.size len (.slice Uz len cap)).run P {w with drawn:=w.drawn+1}=.ok old.toArray {w with drawn:=w.drawn+1}) (AH:(Builtin.firstCells i.size n x).run P {w with drawn:=w.drawn+1}=.ok cN.toArray {w with drawn:=w.drawn+1}):
  ∃(dP:List Value) (gH:Nat),len+n<=gH/\dP.length=(gH-(len+n))*i.size/\(Builtin.append_ #[kt,ku] c2 #[.slice Uz len cap,x]).run P w=
   .ok (.slice (some ⟨w.heap.size,0,none⟩) (len+n) gH) {w with heap:=w.heap.push (.cells (old++cN++dP).toArray e (0,0)),drawn:=w.drawn+1}:=by
 obtain⟨nf,_⟩:=sZ (P:=P) eu {w with drawn:=w.drawn+1};simp only[xg,Bool.and_eq_true,l3,decide_eq_true_eq]at tY;obtain⟨bQ,cE⟩:=tY
 let gH:=(len+n)+(w.tape w.drawn (.appendCap (len+n) cap e))%(2^63-(len+n))
 refine⟨(Builtin.zeroCells z.cells (gH-(len+n))).toList,gH,by omega,by rw[Nc,qa],?_⟩;have xq:∃d,P.underlying ku=some d/\(match d with|.int _=>true|_=>false)=false:=by grind[Ao]
 obtain⟨Fp,xr,yS⟩:=xq;have AM:(typeInfo e).run P w=.ok i w:=by simp[typeInfo,aq]
 have iI:(sizeOf e).run P w=.ok i.size w:=by simp_all[sizeOf]
 have wo:¬Builtin.nextslicecap (len+n) cap*i.bytes>2^48:=by have:=nextslicecap_le yR;have af:=Nat.mul_le_mul_right i.bytes this;omega
 have Nf:¬(((len+n:Nat):Int)>IntKind.i64.max/\(False\/i.bytes=0)):=by
  have e:IntKind.i64.max=9223372036854775807:=by decide
  omega
 have b5:(Question.appendCap (len+n) cap e).forced=false:=rfl;have Ng:(Question.appendCap (len+n) cap e).cut (w.tape w.drawn (.appendCap (len+n) cap e))=gH:=rfl;simp only[Builtin.append_,List.getElem?_toArray,List.getElem?_cons_zero,List.getElem?_cons_succ,Sem.run_bind,run_underlying bD,run_underlying xr,Result.andThen_ok,iI,Sem.run_pure];cases Fp<;>simp only[]at yS<;>try cases yS
 all_goals
  simp only[Sem.run_bind,Result.andThen_ok,Bool.false_eq_true,if_false,hlen];rw[Sem.run_ite,if_neg (by omega)];simp only[Sem.run_bind,AM,Result.andThen_ok,Sem.run_ite];rw[if_neg Nf,if_neg wo];simp only[run_choose,b5,Ng,Bool.false_eq_true,if_false,Result.andThen_ok,Sem.run_pure];simp only[typeInfo,aq,Sem.run_bind,run_program,Result.andThen_ok,Sem.run_pure,run_askRoom,k8,AH,nf,Bool.not_false,if_true,newRow,run_newObj]
  congr 2
  apply congrArg (fun a=>w.heap.push (Obj.cells a e (0,0)));apply Array.ext';simp
theorem Nh{kt ku c2 e:TypeId}(bD:P.underlying kt=some (.slice e))(ao:Ao P ku=true){size:Nat}(aq:gM P e=some size)(a:Addr)(len cap n:Nat)(x:Value)(cN:List Value)
  (hlen:(Builtin.lenOf x).run P w=.ok n w) (yR:len+n<=cap) (AH:(Builtin.firstCells size n x).run P w=.ok cN.toArray w) {aL:World} (fT:(storeCells (a.add (len*size)) cN).run P w=.ok () aL):
  (Builtin.append_ #[kt,ku] c2 #[.slice (some a) len cap,x]).run P w=.ok (.slice (some a) (len+n) cap) aL:=by
 have xq:∃d,P.underlying ku=some d/\(match d with|.int _=>true|_=>false)=false:=by grind[Ao]
 obtain⟨Fp,xr,yS⟩:=xq;simp only[Builtin.append_,List.getElem?_toArray,List.getElem?_cons_zero,List.getElem?_cons_succ,Sem.run_bind,run_underlying bD,run_underlying xr,Result.andThen_ok,oA aq,Sem.run_pure];cases Fp<;>simp only[]at yS<;>try cases yS
 all_goals
  simp only[Sem.run_bind,Result.andThen_ok,Bool.false_eq_true,if_false,hlen];rw[Sem.run_ite,if_pos yR];simp only[Sem.run_bind,Bool.not_false,if_true,AH,Result.andThen_ok,fT,Sem.run_pure]
theorem ah9{kt ku c2 e:TypeId}(bD:P.underlying kt=some (.slice e))(ao:Ao P ku=true){size:Nat}(aq:gM P e=some size)(x:Value)(cN:List Value)
  (hlen:(Builtin.lenOf x).run P w=.ok 0 w) (AH:(Builtin.firstCells size 0 x).run P w=.ok cN.toArray w):
  (Builtin.append_ #[kt,ku] c2 #[.slice none 0 0,x]).run P w=.ok (.slice none 0 0) w:=by
 have xq:∃d,P.underlying ku=some d/\(match d with|.int _=>true|_=>false)=false:=by grind[Ao]
 obtain⟨Fp,xr,yS⟩:=xq;simp only[Builtin.append_,List.getElem?_toArray,List.getElem?_cons_zero,List.getElem?_cons_succ,Sem.run_bind,run_underlying bD,run_underlying xr,Result.andThen_ok,oA aq,Sem.run_pure];cases Fp<;>simp only[]at yS<;>try cases yS
 all_goals
  simp only[Sem.run_bind,Result.andThen_ok,Bool.false_eq_true,if_false,hlen];rw[Sem.run_ite,if_pos (by omega)];simp only[Sem.run_bind,Bool.not_false,if_true,AH,Result.andThen_ok,Sem.run_pure]
theorem aia{ar:List Value}{id:Nat}(aw:jq σ B h w)(e4:σ H.next=none)(dj:id≠H.next)(an:H.get id≠none)(i:Nat)(b:az)
  (bD:h6 h H ⟨(H.t.set id none).set H.next (some ⟨ar,true⟩),Nat.succ H.next,H.dy,H.dO⟩ i=some b):(i=H.next/\b=⟨ar,true⟩)\/(i≠H.next/\i≠id/\h i=some b):=by
 have aX:h H.next=none:=by
  cases hh:h H.next with
  | none=>rfl
  | some b=>obtain⟨c,o,s,_,_,_,ad,_⟩:=aw.fu _ _ hh;simp_all
 unfold h6 at bD;by_cases aq:i=H.next
 ·subst aq;split at bD
  ·simp_all
  ·rcases Tr.CR _ _ _ _ _ bD with⟨_,af⟩|⟨ad,_⟩
   ·simp_all
   omega
 ·right;have bn:(au.get ⟨(H.t.set id none).set H.next (some ⟨ar,true⟩),Nat.succ H.next,H.dy,H.dO⟩ i)=(H.t.set id none).get i:=Tr.lL _ _ _ _ aq;rw[bn]at bD;by_cases sb:i=id
  ·simp_all[Tr.yN]
  ·rw[Tr.lL _ _ _ _ sb]at bD;have bF:H.t.get i=H.get i:=rfl
   simp_all
theorem aib{n:Nat}(aw:jq σ B h w)(id:Nat)(b:az)(an:h id=some b)(L:Nat):kb B σ h n w σ (fun j=>if j=id then some ⟨b.cells.take L,b.wr⟩else h j) n w:=by
 have ar:∀j dE,(if j=id then some (⟨b.cells.take L,b.wr⟩:az)else h j)=some dE->∃kQ,h j=some kQ/\kQ.wr=dE.wr:=by grind
 refine⟨⟨fun j dE bp=>?_,fun j dE bp aM=>?_,fun i j hY fY dj aq bp aM=>?_⟩,Nat.le_refl _,fun _ _=>rfl,fun _ _ h=>h,rfl,rfl,rfl,Nat.le_refl _,fun _ _ _=>rfl,fun c ⟨j,dE,o,s,bp,aM,aA⟩ _=>?_⟩
 ·have bp:(if j=id then some (⟨b.cells.take L,b.wr⟩:az)else h j)=some dE:=bp;split at bp
  ·rename_i e;cases bp;subst e;obtain⟨c,o,s,dk,c2,et,bn,bF,ey,i6,hQ,iG⟩:=aw.fu j b an;refine⟨c,o,s,dk,c2,et,bn,bF,ey,?_,?_,iG⟩
   ·grind
   ·have:=hQ.take L
    grind
  ·exact aw.fu j dE bp
 ·obtain⟨kQ,ad,af⟩:=ar j dE bp;exact aw.own j kQ ad (af.trans aM)
 ·obtain⟨kQ,ad,af⟩:=ar i hY aq;obtain⟨fj,ax,_⟩:=ar j fY bp;exact aw.kM i j kQ fj dj ad ax (af.trans aM)
 ·obtain⟨kQ,ad,af⟩:=ar j dE bp;exact⟨j,kQ,o,s,ad,af.trans aM,aA⟩
theorem wrap_i64{n:Int}(aR:0<=n)(h:n<=9223372036854775807):IntKind.i64.wrap n=n:=by
 have:iY .i64 n=IntKind.i64.wrap n:=tV .i64 n;rw[<- this];unfold iY tL;cases n with
 | ofNat m=>grind[blt_eq]
 | negSucc m=>omega
theorem aic{kt ku c2 e:TypeId}(bD:P.underlying kt=some (.slice e))(ao:CG P ku=true){i:TypeInfo}(aq:P.info? e=some i){z:Value}(eu:h3 P e=some z)
  (qa:z.cells.size=i.size) (bM:0<i.size) (n:Nat) (aX:0<n) (tY:xg n i.bytes=true):
  ∃(dP:List Value) (gH:Nat),n<=gH/\dP.length=(gH-n)*i.size/\(Builtin.append_ #[kt,ku] c2 #[.slice none 0 0,.int .i64 n]).run P w=
   .ok (.slice (some ⟨w.heap.size,0,none⟩) n gH) {w with heap:=w.heap.push (.cells ((Builtin.zeroCells z.cells n).toList++dP).toArray e (0,0)),drawn:=w.drawn+1}:=by
 obtain⟨nf,_⟩:=sZ (P:=P) eu {w with drawn:=w.drawn+1};simp only[xg,Bool.and_eq_true,l3,decide_eq_true_eq]at tY;obtain⟨bQ,cE⟩:=tY
 let gH:=n+(w.tape w.drawn (.appendCap n 0 e))%(2^63-n)
 refine⟨(Builtin.zeroCells z.cells (gH-n)).toList,gH,by omega,by rw[Nc,qa],?_⟩;have xq:∃k,P.underlying ku=some (.int k):=by grind[CG]
 obtain⟨k,xr⟩:=xq;have AM:(typeInfo e).run P w=.ok i w:=by simp[typeInfo,aq]
 have iI:(sizeOf e).run P w=.ok i.size w:=by simp_all[sizeOf]
 have wo:¬Builtin.nextslicecap n 0*i.bytes>2^48:=by have:=nextslicecap_le (need:=n) (old:=0) aX;have af:=Nat.mul_le_mul_right i.bytes this;omega
 have oC:¬((n:Int)*(i.bytes:Int)>2^48):=by grind
 have Nf:¬(((n:Nat):Int)>IntKind.i64.max/\(True\/i.bytes=0)):=by
  have e:IntKind.i64.max=9223372036854775807:=by decide
  omega
 have aM:IntKind.i64.wrap (n:Int)=n:=wrap_i64 (by omega) (by omega);have b5:(Question.appendCap n 0 e).forced=false:=rfl;have Ng:(Question.appendCap n 0 e).cut (w.tape w.drawn (.appendCap n 0 e))=gH:=rfl;have AN:¬n*i.size=0:=by have:=Nat.mul_pos aX bM;omega
 simp only[Builtin.append_,List.getElem?_toArray,List.getElem?_cons_zero,List.getElem?_cons_succ,Sem.run_bind,run_underlying bD,run_underlying xr,Result.andThen_ok,iI,Sem.run_pure,asInt];simp only[if_true,asIntOf,Sem.run_bind,Sem.run_pure,Result.andThen_ok,aM];rw[Sem.run_ite,if_neg (by omega)];simp only[Sem.run_bind,AM,Result.andThen_ok];rw[Sem.run_ite,if_neg oC];simp only[Sem.run_bind,Sem.run_pure,Result.andThen_ok,Int.toNat_natCast,Nat.zero_add];rw[Sem.run_ite,if_neg (by omega)];simp only[Sem.run_bind,AM,Result.andThen_ok,Sem.run_ite];rw[if_neg Nf,if_neg wo];simp only[run_choose,b5,Ng,Bool.false_eq_true,if_false,Result.andThen_ok,Sem.run_pure];simp only[typeInfo,aq,Sem.run_bind,run_program,Result.andThen_ok,Sem.run_pure,run_askRoom,nf,Bool.not_true,if_false,Bool.false_eq_true,newRow,run_newObj,Builtin.firstCells];rw[if_neg AN];simp only[Result.andThen_ok,nf]
 congr 2
 apply congrArg (fun a=>w.heap.push (Obj.cells a e (0,0)))
 simp_all
theorem aid{kt ku c2 e:TypeId}(bD:P.underlying kt=some (.slice e))(ao:CG P ku=true){i:TypeInfo}(aq:P.info? e=some i):
  (Builtin.append_ #[kt,ku] c2 #[.slice none 0 0,.int .i64 ((0:Nat):Int)]).run P w=.ok (.slice none 0 0) w:=by
 have xq:∃k,P.underlying ku=some (.int k):=by grind[CG]
 obtain⟨k,xr⟩:=xq;have AM:(typeInfo e).run P w=.ok i w:=by simp[typeInfo,aq]
 have iI:(sizeOf e).run P w=.ok i.size w:=by simp_all[sizeOf]
 have aM:IntKind.i64.wrap ((0:Nat):Int)=((0:Nat):Int):=wrap_i64 (by omega) (by omega);simp only[Builtin.append_,List.getElem?_toArray,List.getElem?_cons_zero,List.getElem?_cons_succ,Sem.run_bind,run_underlying bD,run_underlying xr,Result.andThen_ok,iI,Sem.run_pure,asInt];simp only[if_true,asIntOf,Sem.run_bind,Sem.run_pure,Result.andThen_ok,aM];rw[Sem.run_ite,if_neg (by omega)];simp only[Sem.run_bind,AM,Result.andThen_ok];rw[Sem.run_ite,if_neg (by omega)];simp only[Sem.run_bind,Sem.run_pure,Result.andThen_ok,Int.toNat_natCast,Nat.zero_add]
 simp_all
theorem aie{kt ku c2:TypeId}{s cm x bK v:Value}(aw:jq σ B h w)(ck:B<=w.heap.size)(e4:∀i,H.next<=i->i<ab.next->σ i=none)(vh:CG P ku=true)
  (tZ:cg σ s cm) (jK:cg σ x bK) (U:(CF P kt).f [s,x] H=some (v,ab)):gG P B (Builtin.append_ #[kt,ku] c2 #[cm,bK]) w σ h H v ab:=by
 unfold CF at U;split at U
 case h_2=>cases U
 case h_1 e bD=>
 split at U
 case h_2=>cases U
 case h_1 i aq=>
 split at U
 case h_2=>cases U
 case h_1 z eu=>
 split at U
 case h_2=>cases U
 case h_1 b5=>
 simp only[Bool.and_eq_true,blt_eq,gX,decide_eq_true_eq]at b5;obtain⟨bM,sa⟩:=b5;have sa:=Nat.eq_of_beq_eq_true sa;have qa:z.cells.size=i.size:=by grind[Iy]
 simp only[gg]at U;unfold H2 at U;split at U
 case h_2=>cases U
 case h_1 a len c=>
 split at U
 case h_1=>cases U
 case h_2=>
 split at U
 case h_2=>cases U
 case h_1 k n=>
 split at U
 case h_2=>cases U
 case h_1=>
 split at U
 case h_2=>cases U
 case h_1 an=>
 rw[Bool.and_eq_true,Bool.and_eq_true]at an;obtain⟨aBe,jX,pB⟩:=an;obtain rfl:=Nat.eq_of_beq_eq_true jX;obtain rfl:=Nat.eq_of_beq_eq_true pB;have aR:0<=n:=by simp_all[ly]
 obtain⟨m,rfl⟩:∃m:Nat,n=m:=⟨n.toNat,by omega⟩;obtain rfl:cm=.slice none 0 0:=by cases tZ;rfl
 obtain rfl:bK=.int .i64 m:=by cases jK;rfl
 rw[Int.toNat_natCast]at U;split at U
 case h_1 aV=>grind[Nat.eq_of_beq_eq_true,gG.pure,aid]
 case h_2 aV=>
  have aV:0<m:=by grind
  split at U
  case h_2=>cases U
  case h_1 tY=>
  obtain⟨dP,gH,bX,b7,g3⟩:=aic (P:=P) (w:=w) (c2:=c2) bD vh aq eu qa bM m aV tY;obtain⟨_,Ni⟩:=sZ (P:=P) eu w;have aif:bG σ (fS m (dp z)) (Builtin.zeroCells z.cells m).toList:=by
   have bn:(Builtin.zeroCells z.cells m).toList=fS m z.cells.toList:=by grind[Builtin.zeroCells,Iz]
   rw[bn];exact(vc Ni).cells.fS m
  obtain⟨τ,id,rfl,lN,hg⟩:=CW (dP:=dP) aw ck e4 aif e (0,0) (by simp) (w.drawn+1) U;refine⟨_,_,τ,g3,?_,hg⟩;refine CU lN bM bX ?_;rw[b7,Nc,qa,<- Nat.add_mul]
  simp_all
theorem aih{kt ku c2:TypeId}{s cm x bK v:Value}(aw:jq σ B h w)(ck:B<=w.heap.size)(e4:∀i,H.next<=i->i<ab.next->σ i=none)(hF:tX h H s)(qI:tX h H x)
  (tZ:cg σ s cm) (jK:cg σ x bK) (U:(CE P [kt,ku]).f [s,x] H=some (v,ab)):gG P B (Builtin.append_ #[kt,ku] c2 #[cm,bK]) w σ h H v ab:=by
 unfold CE at U;simp only at U;split at U
 case h_2=>cases U
 case h_1 e bD=>
 split at U
 case h_2=>cases U
 case h_1 i aq=>
 split at U
 case h_2=>cases U
 case h_1 z eu=>
 split at U
 case h_2=>cases U
 case h_1 b5=>
 simp only[Bool.and_eq_true,blt_eq,gX,decide_eq_true_eq]at b5;obtain⟨⟨bM,sa⟩,vh⟩:=b5;have sa:=Nat.eq_of_beq_eq_true sa;have qa:z.cells.size=i.size:=by grind[Iy]
 have eU:gM P e=some i.size:=by simp[gM,aq]
 simp only[gg,gD]at U;split at U
 case h_2=>cases U
 case h_1 n aX=>
 split at U
 case h_2=>cases U
 case h_1 cN dj=>
 have iI:jq σ B h {w with drawn:=w.drawn+1}:=⟨aw.fu,aw.own,aw.kM⟩;obtain⟨pC,e8,fF,C1⟩:=IE (P:=P) aw qI jK aX (Nat.le_refl _) dj;obtain⟨Fq,fk,dG,s3⟩:=IE (P:=P) iI qI jK aX (Nat.le_refl _) dj;have mf:=ID (P:=P) (w:=w) jK aX;have aii:pC.length=n*i.size:=by rw[<- fF.length];exact C1
 have xt:Fq.length=n*i.size:=by rw[<- dG.length];exact s3
 unfold qC at U;cases tZ<;>simp only at U<;>try cases U
 case mE _=>
  split at U
  ·rename_i aR;cases U;have aR:=Nat.eq_of_beq_eq_true aR;subst aR;exact gG.pure aw ⟨_,ah9 bD vh eU bK pC mf e8,.mE .nil⟩
  ·rename_i aR;have aR:n≠0:=fun e=>by simp_all
   split at U
   ·rename_i tY;obtain⟨dP,gH,bX,b7,g3⟩:=Nd (P:=P) (w:=w) (c2:=c2) bD vh aq eu qa none 0 0 n bK [] Fq mf (by omega) (by simp_all) rfl fk;obtain⟨τ,id,rfl,lN,hg⟩:=CW (dP:=dP) aw ck e4 dG e (0,0) (by simp) (w.drawn+1) U;refine⟨_,_,τ,g3,?_,by simp_all⟩;rw[Nat.zero_add]at*;refine CU lN bM bX ?_;rw[b7,xt,<- Nat.add_mul]
    simp_all
   grind
 case oy id off len o4 c o c0 a eg rp jJ _=>
  split at U
  ·rename_i aR;cases U;have aR:=Nat.eq_of_beq_eq_true aR;subst aR;refine gG.pure aw ⟨_,?_,.oy id off len o4 c o c0 a eg rp jJ .nil⟩;have AO:pC=[]:=List.length_eq_zero_iff.1 (by omega);subst AO;exact Nh (w:=w) bD vh eU a len len 0 bK [] mf (by omega) e8 rfl
  ·rename_i aR;have aR:n≠0:=fun e=>by simp_all
   split at U
   ·rename_i tY;split at U
    case isFalse aA=>grind[Nat.eq_of_beq_eq_true]
    case isTrue=>
    unfold yC at U;split at U
    case h_2=>cases U
    case h_1 old k8=>
    have Nj:∃wq,(Builtin.firstCells i.size len (.slice (some a) len len)).run P {w with drawn:=w.drawn+1}=.ok wq.toArray {w with drawn:=w.drawn+1}/\bG σ old wq/\old.length=len*i.size:=by
     split at k8
     ·rename_i sc;cases k8;have sc:=Nat.eq_of_beq_eq_true sc
      simp_all[Builtin.firstCells,loadCells,loadCellsFrom]
     ·rename_i sc;have sc:len≠0:=fun e=>by simp_all
      have jJ:a=⟨c,o+off,none⟩:=(jJ.resolve_left sc).1;subst jJ;obtain⟨aG,bP,ca,dH⟩:=AL (P:=P) iI (hF id rfl) k8 eg;exact⟨aG,bP,ca,dH⟩
    obtain⟨wq,bW,dt,hn⟩:=Nj;obtain⟨dP,gH,bX,b7,g3⟩:=Nd (P:=P) (w:=w) (c2:=c2) bD vh aq eu qa (some a) len len n bK wq Fq mf (by omega) tY bW fk;rw[iF]at U;obtain⟨τ,tT,rfl,lN,hg⟩:=CW (dP:=dP) aw ck e4 (dt.append dG) e (0,0) (by simp) (w.drawn+1) U;refine⟨_,_,τ,g3,?_,hg⟩;refine CU lN bM bX ?_;have:=dt.length;rw[b7,List.length_append,xt,<- this,hn,<- Nat.add_mul,<- Nat.add_mul]
    simp_all
   grind
 case n5 id off len o4 cap c o c0 a eg rp kP jJ _=>
  split at U
  ·rename_i aR;cases U;have aR:=Nat.eq_of_beq_eq_true aR;subst aR;refine gG.pure aw ⟨_,?_,.n5 id off len o4 cap c o c0 a eg rp kP jJ .nil⟩;have AO:pC=[]:=List.length_eq_zero_iff.1 (by omega);subst AO;exact Nh (w:=w) bD vh eU a len cap 0 bK [] mf (by omega) e8 rfl
  ·rename_i aR;have aR:n≠0:=fun e=>by simp_all
   split at U
   case isFalse=>cases U
   case isTrue tY=>
   split at U
   case isTrue aA=>grind[Nat.eq_of_beq_eq_true]
   case isFalse=>
   split at U
   case isFalse=>cases U
   case isTrue wt=>
   have wt:=Nat.eq_of_beq_eq_true wt;obtain rfl:o4=i.size:=by omega
   unfold Am at U;cases hg:H.get id with
   | none=>simp_all
   | some b=>
    rw[hg]at U;simp only at U;split at U
    case h_2=>cases U
    case h_1 b5=>
    simp only[Bool.and_eq_true,au.ou,gX]at b5;obtain⟨⟨aM,_⟩,Nk,aij⟩:=b5;rw[l3]at Nk;have Nk:=of_decide_eq_true Nk;have an:=hF id rfl b hg;have Fs:=aib (n:=H.next) aw id b an (off+len*i.size);simp only[l1,au.cN,au.set,iF,nE,mD]at U;cases U;have qJ:(b.cells.drop off).take (len*i.size)=(b.cells.take (off+len*i.size)).drop off:=by grind
    have aik:(b.cells.take (off+len*i.size)).length=off+len*i.size:=by simp_all
    have qK:∀j dE,j≠id->h j=some dE->(if j=id then some (⟨b.cells.take (off+len*i.size),b.wr⟩:az)else h j)=some dE:=fun j dE dj bp=>by simp_all
    generalize yT:b.cells.take (off+len*i.size)=jY at*;obtain⟨cC,dv,cm,dk,UA,et,bn,bF,ey,i6,hQ,iG⟩:=Fs.fv.fu id ⟨jY,b.wr⟩ (if_pos rfl);rw[eg]at bn;cases bn;simp only at i6 hQ;have ag:σ H.next=none:=e4 H.next (Nat.le_refl _) (Nat.lt_succ_self _);have ail:id≠H.next:=fun e=>by simp_all
    have UB:=fun j dE=>aia (ar:=jY.drop off++cN) (h:=h) (H:=H) (id:=id) aw ag ail (by grind) j dE
    by_cases xu:len+n<=cap
    ·-- in iX
     have jJ:a=⟨c,o+off,none⟩/\o+off+cap*i.size<=c0:=by
      rcases jJ with hh|⟨_,af⟩
      ·exact hh
      ·omega
     obtain⟨rfl,yR⟩:=jJ;have aBf:o+jY.length+pC.length<=dk.size:=by
      rw[aii,aik,ey];have:=Nat.mul_le_mul_right i.size xu
      grind
     have qL:∀aU∈pC,aU.oneCell'=true:=Us fF aij;have fT:=MQ (P:=P) c (o+off+len*i.size) UA et pC 0 dk w bF (by omega) qL (fun j bp=>(iG aM).2 j (by omega))
     let bN:az:=⟨jY++cN,b.wr⟩
     let r8:=(dk.toList.take (o+off+len*i.size+0)++pC++dk.toList.drop (o+off+len*i.size+0+pC.length)).toArray
     have IF:kb B σ (fun j=>if j=id then some (⟨jY,b.wr⟩:az)else h j) H.next w σ (fun j=>if j=id then some bN else h j) H.next (w.setRow c r8):=by
      refine ah6 Fs.fv id ⟨jY,b.wr⟩ bN (if_pos rfl) aM c o c0 dk r8 UA et eg bF ?_ ?_ ?_ _ ?_
      ·simp[r8];omega
      ·grind
      ·have hlen:bN.cells.length=jY.length+pC.length:=by grind
       have aV:(r8.toList.drop o).take bN.cells.length=(dk.toList.drop o).take jY.length++pC:=by
        rw[hlen];apply List.ext_getElem?;intro k;have hL:o+off+len*i.size+0=o+jY.length:=by omega
        simp only[r8,hL,List.getElem?_take,List.getElem?_drop,List.getElem?_append,List.length_append,List.length_take,List.length_drop,Array.length_toList];have dm:min (o+jY.length) dk.size=o+jY.length:=by omega
        have da:min jY.length (dk.size-o)=jY.length:=by omega
        simp only[dm,da];by_cases eJ:k<jY.length
        ·simp[eJ,show k<jY.length+pC.length by omega,show o+k<o+jY.length+pC.length by omega,show o+k<o+jY.length by omega]
        ·by_cases hx:k<jY.length+pC.length
         ·simp only[eJ,hx,if_true,if_false,show o+k<o+jY.length+pC.length by omega,show¬o+k<o+jY.length by omega]
          congr 1;omega
         grind
       rw[aV];exact hQ.append fF
      ·intro j dE bp;by_cases IG:j=id
       ·simp_all
       simp_all
     have Nl:kb B σ (fun j=>if j=id then some bN else h j) H.next (w.setRow c r8) (fun j=>if j=H.next then some (c,o+off,c0)else σ j) (h6 h H ⟨(H.t.set id none).set H.next (some ⟨jY.drop off++cN,true⟩),Nat.succ H.next,H.dy,H.dO⟩) (H.next+1) (w.setRow c r8):=by
      refine ah7 IF.fv id H.next off bN (by simp) aM c o c0 eg ag (by grind) _ ?_;intro j dE bp;rcases UB j dE bp with⟨bP,ca⟩|⟨bP,ca,dH⟩
      ·left;refine⟨bP,ca.trans ?_⟩;simp only[bN]
       simp_all[List.drop_append_of_le_length]
      simp_all
     refine⟨.slice (some ⟨c,o+off,none⟩) (len+n) cap,_,_,?_,?_,Fs.trans (IF.trans Nl)⟩
     ·refine Nh (w:=w) bD vh eU ⟨c,o+off,none⟩ len cap n bK pC mf xu e8 ?_
      grind[CS]
     ·exact .n5 H.next 0 (len+n) i.size cap c (o+off) c0 _ (if_pos rfl) bM xu (.inl ⟨by simp,by omega⟩) .nil
    ·-- a cN array
     have Nj:∃wq,(Builtin.firstCells i.size len (.slice (some a) len cap)).run P {w with drawn:=w.drawn+1}=.ok wq.toArray {w with drawn:=w.drawn+1}/\bG σ (jY.drop off) wq:=by
      rcases jJ with⟨rfl,_⟩|⟨rfl,rfl⟩
      ·have:rZ H id off (len*i.size)=some (jY.drop off):=by simp_all[AB,xe,mD,nE,gX]
       obtain⟨aG,bP,ca,dH⟩:=AL (P:=P) iI (hF id rfl) this eg;exact⟨aG,bP,ca⟩
      simp_all[Builtin.firstCells,loadCells,loadCellsFrom,List.drop_eq_nil_of_le]
     obtain⟨wq,bW,dt⟩:=Nj;have UC:(jY.drop off).length=len*i.size:=by simp;omega
     obtain⟨dP,gH,bX,b7,g3⟩:=Nd (P:=P) (w:=w) (c2:=c2) bD vh aq eu qa (some a) len cap n bK wq Fq mf (by omega) tY bW fk;have aim:=Uh aw ck H.next ag (jY.drop off++cN) (wq++Fq) dP e (0,0) (dt.append dG) (by simp) (w.drawn+1) (h6 h H ⟨(H.t.set id none).set H.next (some ⟨jY.drop off++cN,true⟩),Nat.succ H.next,H.dy,H.dO⟩)
      (fun j dE bp=>by
       rcases UB j dE bp with q|⟨bP,_,dH⟩
       ·grind
       simp_all)
     refine⟨_,_,_,g3,?_,aim⟩;refine CU (if_pos rfl) bM bX ?_;have:=dt.length;rw[b7,List.length_append,xt,<- this,UC,<- Nat.add_mul,<- Nat.add_mul]
     simp_all
end
end Go.Ab
namespace Go.Ab
open Go
section
variable{P:Program}{σ:cQ}{B:Nat}{h:Nat->Option az}{H ab:au}{w:World}
theorem ain{r1 kt c2:TypeId}{d eE x bK v:Value}(aw:jq σ B h w)(Nn:tX h H d)(qI:tX h H x)(AP:cg σ d eE)(jK:cg σ x bK)
  (U:(yD P [r1,kt]).f [d,x] H=some (v,ab)):gG P B (Builtin.copy_ #[r1,kt] c2 #[eE,bK]) w σ h H v ab:=by
 unfold yD at U;simp only at U;split at U
 case h_2=>cases U
 case h_1 e bD=>
 split at U
 case h_2=>cases U
 case h_1 size eU=>
 split at U
 case isFalse=>cases U
 case isTrue bM=>
 simp only[gg,qD]at U;cases AP<;>simp only at U<;>try cases U
 case mE _=>
  split at U
  case h_2=>cases U
  case h_1 aF aD=>
  split at U
  case isFalse aA=>simp at aA
  case isTrue aA=>
  cases U;have mf:=ID (P:=P) (w:=w) jK aD;have aio:Nat.min aF 0=0:=Nat.min_zero aF;refine gG.pure aw ⟨.int .i64 0,?_,.int⟩;have hf:∃aG,(Builtin.firstCells size 0 bK).run P w=.ok aG w:=by
   cases jK<;>simp only[mZ]at aD<;>try cases aD
   ·exact⟨_,rfl⟩
   ·exact⟨_,rfl⟩
   ·simp_all[Builtin.firstCells,loadCells,loadCellsFrom]
   simp_all[Builtin.firstCells,loadCells,loadCellsFrom]
  obtain⟨aG,hf⟩:=hf;simp only[Builtin.copy_,List.getElem?_toArray,List.getElem?_cons_zero,List.getElem?_cons_succ,Sem.run_bind,run_underlying bD,Result.andThen_ok,mf,oA eU,aio,hf,Sem.run_pure];rfl
 case oy id off len o4 c o s a eg rp jJ _=>
  split at U
  case h_2=>cases U
  case h_1 aF aD=>
  have mf:=ID (P:=P) (w:=w) jK aD;split at U
  case isTrue aR=>
   cases U;have aR:=Nat.eq_of_beq_eq_true aR;have hf:∃aG:List Value,(Builtin.firstCells size 0 bK).run P w=.ok aG.toArray w/\aG.length=0:=by
    cases jK<;>simp only[mZ]at aD<;>try cases aD
    ·rename_i ua _ _;exact⟨[],by show Result.ok ((ua.extract 0 0).data.map fun b=>Value.int .u8 b.toNat) w=_;simp_all,rfl⟩
    ·exact⟨[],rfl,rfl⟩
    ·simp_all[Builtin.firstCells,loadCells,loadCellsFrom]
    simp_all[Builtin.firstCells,loadCells,loadCellsFrom]
   obtain⟨aG,hf,sc⟩:=hf;obtain rfl:=List.length_eq_zero_iff.1 sc;refine gG.pure aw ⟨.int .i64 0,?_,.int⟩;simp only[Builtin.copy_,List.getElem?_toArray,List.getElem?_cons_zero,List.getElem?_cons_succ,Sem.run_bind,run_underlying bD,Result.andThen_ok,mf,oA eU,aR,hf,Sem.run_pure];rfl
  case isFalse aR=>
   have aR:Nat.min aF len≠0:=fun e=>by simp_all
   split at U
   case h_2=>cases U
   case h_1 cN dj=>
   split at U
   case h_2=>cases U
   case h_1 bw aM=>
   cases U;have No:Nat.min aF len<=aF:=Nat.min_le_left _ _;have aip:Nat.min aF len<=len:=Nat.min_le_right _ _;obtain⟨pC,e8,fF,C1⟩:=IE (P:=P) aw qI jK aD No dj;obtain rfl:a=⟨c,o+off,none⟩:=(jJ.resolve_left (by omega)).1;obtain⟨aL,dF,e3,kR⟩:=Iu (P:=P) aw (Nn id rfl) aM fF eg H.next;refine⟨.int .i64 (Nat.min aF len),aL,σ,?_,.int,by simp_all⟩;simp only[Builtin.copy_,List.getElem?_toArray,List.getElem?_cons_zero,List.getElem?_cons_succ,Sem.run_bind,run_underlying bD,Result.andThen_ok,mf,oA eU,e8,Sem.run_pure,dF];rfl
 case n5 id off len o4 cap c o s a eg rp kP jJ _=>
  split at U
  case h_2=>cases U
  case h_1 aF aD=>
  have mf:=ID (P:=P) (w:=w) jK aD;split at U
  case isTrue aR=>
   cases U;have aR:=Nat.eq_of_beq_eq_true aR;have hf:∃aG:List Value,(Builtin.firstCells size 0 bK).run P w=.ok aG.toArray w/\aG.length=0:=by
    cases jK<;>simp only[mZ]at aD<;>try cases aD
    ·rename_i ua _ _;exact⟨[],by show Result.ok ((ua.extract 0 0).data.map fun b=>Value.int .u8 b.toNat) w=_;simp_all,rfl⟩
    ·exact⟨[],rfl,rfl⟩
    ·simp_all[Builtin.firstCells,loadCells,loadCellsFrom]
    simp_all[Builtin.firstCells,loadCells,loadCellsFrom]
   obtain⟨aG,hf,sc⟩:=hf;obtain rfl:=List.length_eq_zero_iff.1 sc;refine gG.pure aw ⟨.int .i64 0,?_,.int⟩;simp only[Builtin.copy_,List.getElem?_toArray,List.getElem?_cons_zero,List.getElem?_cons_succ,Sem.run_bind,run_underlying bD,Result.andThen_ok,mf,oA eU,aR,hf,Sem.run_pure];rfl
  case isFalse aR=>
   have aR:Nat.min aF len≠0:=fun e=>by simp_all
   split at U
   case h_2=>cases U
   case h_1 cN dj=>
   split at U
   case h_2=>cases U
   case h_1 bw aM=>
   cases U;have No:Nat.min aF len<=aF:=Nat.min_le_left _ _;have aip:Nat.min aF len<=len:=Nat.min_le_right _ _;obtain⟨pC,e8,fF,C1⟩:=IE (P:=P) aw qI jK aD No dj;obtain rfl:a=⟨c,o+off,none⟩:=by simp_all
   obtain⟨aL,dF,e3,kR⟩:=Iu (P:=P) aw (Nn id rfl) aM fF eg H.next;refine⟨.int .i64 (Nat.min aF len),aL,σ,?_,.int,by simp_all⟩;simp only[Builtin.copy_,List.getElem?_toArray,List.getElem?_cons_zero,List.getElem?_cons_succ,Sem.run_bind,run_underlying bD,Result.andThen_ok,mf,oA eU,e8,Sem.run_pure,dF];rfl
theorem aiq{t c2:TypeId}{x bK v:Value}(aw:jq σ B h w)(qI:tX h H x)(jK:cg σ x bK)(U:(E5 P t).f x H=some (v,ab)):
  gG P B (Builtin.clear_ #[t] c2 #[bK]) w σ h H v ab:=by
 unfold E5 at U;split at U
 case h_2=>cases U
 case h_1 e bD=>
 split at U
 case h_2=>cases U
 case h_1 z eu=>
 obtain⟨nf,oB⟩:=sZ eu w;have dq:bG σ (dp z) z.cells.toList:=(vc oB).cells;have Ni:∀n,(Builtin.zeroCells z.cells n).toList=fS n z.cells.toList:=fun n=>by grind[Builtin.zeroCells,Iz]
 simp only[yE]at U;have wr:∀(id off len:Nat) (c o s:Nat) (e8:σ id=some (c,o,s)) (bw:au),Fm h H id->uZ H id off (fS len (dp z))=some bw->
   ∃aL,(storeCells ⟨c,o+off,none⟩ (Builtin.zeroCells z.cells len).toList).run P w=.ok () aL/\kb B σ h H.next w σ (h6 h H bw) bw.next aL:=by
  intro id off len c o s e8 bw br aM;rw[Ni];obtain⟨aL,dF,e3,kR⟩:=Iu (P:=P) aw br aM (dq.fS len) e8 H.next
  simp_all
 cases jK<;>simp only at U<;>try cases U
 case mE _=>exact gG.pure aw ⟨.tuple #[],by simp[Builtin.clear_,run_underlying bD],.tuple _ _ .nil .nil⟩
 case oy id off len o4 c o s a eg rp jJ _=>
  split at U
  ·rename_i aR;cases U;have aR:=Nat.eq_of_beq_eq_true aR;subst aR;exact gG.pure aw ⟨.tuple #[],by simp[Builtin.clear_,run_underlying bD],.tuple _ _ .nil .nil⟩
  ·rename_i aR;have aR:len≠0:=fun e=>by simp_all
   split at U
   case h_2=>cases U
   case h_1 bw aM=>
   cases U;obtain rfl:a=⟨c,o+off,none⟩:=(jJ.resolve_left aR).1;obtain⟨aL,dF,e3⟩:=wr id off len c o s eg _ (qI id rfl) aM;refine⟨.tuple #[],aL,σ,?_,.tuple _ _ .nil .nil,e3⟩;obtain⟨m,rfl⟩:∃m,len=m+1:=⟨len-1,by omega⟩;simp[Builtin.clear_,run_underlying bD,nf,dF]
 case n5 id off len o4 cap c o s a eg rp kP jJ _=>
  split at U
  ·rename_i aR;cases U;have aR:=Nat.eq_of_beq_eq_true aR;subst aR;exact gG.pure aw ⟨.tuple #[],by simp[Builtin.clear_,run_underlying bD],.tuple _ _ .nil .nil⟩
  ·rename_i aR;have aR:len≠0:=fun e=>by simp_all
   split at U
   case h_2=>cases U
   case h_1 bw aM=>
   cases U;obtain rfl:a=⟨c,o+off,none⟩:=by simp_all
   obtain⟨aL,dF,e3⟩:=wr id off len c o s eg _ (qI id rfl) aM;refine⟨.tuple #[],aL,σ,?_,.tuple _ _ .nil .nil,e3⟩;obtain⟨m,rfl⟩:∃m,len=m+1:=⟨len-1,by omega⟩;simp[Builtin.clear_,run_underlying bD,nf,dF]
theorem air{t c2:TypeId}{x bK v:Value}(jK:cg σ x bK)(U:(E4 P t).f x H=some (v,ab)):
  ab=H/\∃aQ,(Builtin.len_ #[t] c2 #[bK]).run P w=.ok aQ w/\cg σ v aQ:=by
 unfold E4 at U;cases bD:P.underlying t with
 | none=>simp_all
 | some iH=>
  rw[bD]at U;cases iH<;>simp only at U<;>first|(cases U;done)|skip
  case array n e=>cases U;exact⟨rfl,_,by simp[Builtin.len_,run_underlying bD];rfl,.int⟩
  case string=>
   cases jK<;>simp only at U<;>cases U;rename_i s _;refine⟨rfl,.int .i64 (Int.ofNat (fE s.data.toList)),?_,.int⟩;have:fE s.data.toList=s.size:=by simp_all[gX]
   simp_all[Builtin.len_,run_underlying,goInt]
  case slice e=>
   cases jK<;>simp only at U<;>cases U
   all_goals exact⟨rfl,_,by simp[Builtin.len_,run_underlying bD,goInt],.int⟩
theorem UD:∀(l aG:List Value) (x:Int) (k:IntKind) (v:Value),bG σ l aG->H4 x l k=some v->(List.foldlM Builtin.min2 (.int k x) aG).run P w=.ok v w/\cg σ v v
 | [],aG,x,k,v,hv,U=>by rw[hv.qG];cases U;exact⟨rfl,.int⟩
 | y::r,aG,x,k,v,hv,U=>by
  obtain⟨fi,dD,rfl,ba,gI⟩:=hv.nc;unfold H4 at U;cases y<;>simp only at U<;>try cases U
  rename_i hx n;rw[ba.oz];have bd:=UD r dD _ k v gI U;simp only[List.foldlM_cons,Sem.run_bind];have e:(Builtin.min2 (.int k x) (.int hx n)).run P w=.ok (.int k (cond (kf x n) x n)) w:=by
   simp only[Builtin.min2,Sem.run_pure]
   congr 2
   rw[ly]
   grind
  simp_all
theorem UE:∀(l aG:List Value) (x:Int) (k:IntKind) (v:Value),bG σ l aG->H5 x l k=some v->(List.foldlM Builtin.max2 (.int k x) aG).run P w=.ok v w/\cg σ v v
 | [],aG,x,k,v,hv,U=>by rw[hv.qG];cases U;exact⟨rfl,.int⟩
 | y::r,aG,x,k,v,hv,U=>by
  obtain⟨fi,dD,rfl,ba,gI⟩:=hv.nc;unfold H5 at U;cases y<;>simp only at U<;>try cases U
  rename_i hx n;rw[ba.oz];have bd:=UE r dD _ k v gI U;simp only[List.foldlM_cons,Sem.run_bind];have e:(Builtin.max2 (.int k x) (.int hx n)).run P w=.ok (.int k (cond (kf n x) x n)) w:=by
   simp only[Builtin.max2,Sem.run_pure]
   congr 2
   rw[ly]
   grind
  simp_all
theorem ais{x bK v:Value}(U:r3 x=some v)(ao:cg σ x bK)(o:Oper)(op:Operand)(bJ:o.op=.nilCheck op)(ρ:Operand->Value)(AQ:ρ op=bK):
  (execOp ρ o).run P w=.ok (.value bK) w/\cg σ v bK:=by
 unfold r3 at U;unfold execOp;rw[bJ];simp only[AQ];cases ao<;>simp only at U<;>cases U
 ·rename_i id off c Np s aR _;exact⟨rfl,.ak _ _ _ _ _ aR .nil⟩
 ·rename_i f x bK y fi ad af _;exact⟨rfl,.func _ _ _ _ _ ad af .nil⟩
 ·rename_i t aU oD ad _;exact⟨rfl,.iface _ _ _ ad .nil⟩
end
end Go.Ab
namespace Go.Ab
open Go
section
variable{P:Program}{σ:cQ}{B:Nat}{h:Nat->Option az}{H:au}{w:World}
theorem IH{v aQ:Value}{y n:Nat}{code:BoundsCode}(hv:cg σ v aQ)(U:∃k m,v=.int k m/\0<=m/\m.toNat<=y/\n=m.toNat)(w:World):(Instr.sliceBound aQ y code).run P w=.ok n w:=by
 obtain⟨k,m,rfl,aR,ad,rfl⟩:=U;rw[hv.oz]
 simp_all[Instr.sliceBound,asIntOf]
theorem II{len n:Nat}{v:Value}(U:ow len (some v)=some n):∃k m,v=.int k m/\0<=m/\m.toNat<=len/\n=m.toNat:=by
 unfold ow at U;simp only at U;cases v<;>simp only at U<;>try cases U
 rename_i k m;rw[ly,l3]at U
 grind
theorem ait{len n:Nat}{v:Value}(U:qE len (some v)=some n):∃k m,v=.int k m/\0<=m/\m.toNat<=len/\n=m.toNat:=by have:ow len (some v)=some n:=U;exact II this
inductive xw (σ:cQ):Option Value->Option Value->Prop
 | none:xw σ none none
 | some {v aQ:Value}:cg σ v aQ->xw σ (some v) (some aQ)
theorem Nq{C2:Bool}{len cap l hh:Nat}{n0:Bool}{eZ AR aq gN gW C3:Option Value}(r9:xw σ eZ AR)(C4:xw σ aq gN)(AS:xw σ gW C3)(kP:len<=cap)
  (ad:ow len aq=some hh) (af:qE hh eZ=some l) (ax:r2 hh aq gW=some n0) (w:World):
  ∃m,(Instr.sliceBounds C2 len cap AR gN C3).run P w=.ok (l,hh,m) w/\l<=hh/\hh<=len/\(m=if n0 then hh else cap):=by
 have Ft:∀code,(match AR with|some v=>Instr.sliceBound v hh code|none=>(pure 0:Sem Nat)).run P w=.ok l w/\l<=hh:=by
  intro code;cases r9 with
  | none=>simp[qE]at af;subst af;simp_all
  | some hv=>grind[ait,IH]
 have UF:hh<=len:=by
  cases aq with
  | none=>simp_all[ow]
  | some v=>grind[II]
 cases AS with
 | none=>
  simp[r2]at ax;subst ax;refine⟨cap,?_,(Ft .sliceB).2,UF,by simp⟩;cases C4 with
  | none=>simp[ow]at ad;subst ad;simp only[Instr.sliceBounds,Sem.run_bind,Sem.run_pure,Result.andThen_ok,Option.isSome_none,Bool.false_eq_true,if_false];have:=(Ft .sliceB).1;cases r9<;>simp only at this⊢ <;>(try rw[this])<;>simp_all
  | some hv=>have an:=II ad;obtain⟨k,m,e,bP,ca,dH⟩:=an;have U:=IH (P:=P) (y:=cap) (n:=hh) (code:=if C2 then .sliceAcap else .sliceAlen) hv ⟨k,m,e,bP,by omega,dH⟩ w;simp only[Instr.sliceBounds,Sem.run_bind,Sem.run_pure,Result.andThen_ok,Option.isSome_none,Bool.false_eq_true,if_false,U];have:=(Ft .sliceB).1;cases r9<;>simp only at this⊢ <;>(try rw[this])<;>simp_all
 | some aiu=>
  rename_i C5 aBg;unfold r2 at ax;simp only at ax;cases C5<;>simp only at ax<;>try cases ax
  rename_i mk aiv;cases C4 with
  | none=>cases ax
  | some hv=>
   simp only at ax;split at ax
   case h_2=>cases ax
   case h_1 Fu=>
   split at ax
   case h_2=>cases ax
   case h_1 vg=>
   cases ax;rw[ly]at Fu;have Fu:=of_decide_eq_true Fu;have vg:=Nat.eq_of_beq_eq_true vg;obtain⟨k,m,e,bP,ca,dH⟩:=II ad;refine⟨hh,?_,(Ft .slice3C).2,UF,by simp⟩;have bQ:=IH (P:=P) (y:=cap) (n:=hh) (code:=if C2 then .slice3Acap else .slice3Alen) aiu ⟨mk,aiv,rfl,Fu,by omega,vg.symm⟩ w;have cE:=IH (P:=P) (y:=hh) (n:=hh) (code:=.slice3B) hv ⟨k,m,e,bP,by omega,dH⟩ w;simp only[Instr.sliceBounds,Sem.run_bind,bQ,cE,Result.andThen_ok,Option.isSome_some,if_true];have:=(Ft .slice3C).1;cases r9<;>simp only at this⊢ <;>(try rw[this])<;>simp_all
theorem UG{size l hh m cap:Nat}{n0:Bool}{a:Option Addr}{cr:Option Addr}{v:Value}(bM:0<size)(U:rj size a l hh n0=some v)(aD:l<=hh)
  (aV:m=if n0 then hh else cap) (yR:hh<=cap)
  (br:match a with
   | none=>cr=none/\hh=0/\cap=0
   | some a=>∃c o s,σ a.block=some (c,o,s)/\cr.isSome=true/\((hh=0/\cap=0)\/(cr=some ⟨c,o+a.off,none⟩/\o+a.off+cap*size<=s))):
  cg σ v (.slice (if m=l then cr else cr.map (·.add (l*size))) (hh-l) (m-l)):=by
 cases a with
 | none=>
  obtain⟨rfl,rfl,rfl⟩:=br;cases U;have:m=0:=by simp_all
  subst this;have:l=0:=by omega
  subst this;exact .mE .nil
 | some a=>
  obtain⟨id,off,cF⟩:=a;obtain⟨c,o,s,eg,aiw,jJ⟩:=br;obtain⟨dE,rfl⟩:=Option.isSome_iff_exists.1 aiw;cases cF with
  | some _=>cases U
  | none=>
   cases U;have eg:σ id=some (c,o,s):=eg;have xx:∀x,(if m=l then(some dE:Option Addr)else(some dE).map (·.add x))=some (if m=l then dE else dE.add x):=fun x=>by grind
   rw[xx];cases n0 with
   | true=>
    simp only[if_true]at aV;subst aV;refine .oy id (off+l*size) (m-l) size c o s _ eg bM ?_ .nil;by_cases Fv:m=l
    ·omega
    ·right;rcases jJ with⟨ad,af⟩|⟨ad,af⟩
     ·omega
     ·rw[if_neg Fv];cases ad;refine⟨by grind[CS],?_⟩;have bn:l*size+(m-l)*size=m*size:=by rw[<- Nat.add_mul];simp_all
      have bF:=Nat.mul_le_mul_right size yR
      grind
   | false=>
    simp only[Bool.false_eq_true,if_false]at aV;subst aV;refine .n5 id (off+l*size) (hh-l) size (m-l) c o s _ eg bM (by omega) ?_ .nil;by_cases Fv:m=l
    ·omega
    ·left;rcases jJ with⟨ad,af⟩|⟨ad,af⟩
     ·omega
     ·rw[if_neg Fv];cases ad;refine⟨by grind[CS],?_⟩;have bn:l*size+(m-l)*size=m*size:=by rw[<- Nat.add_mul];grind
      grind
theorem aix{t:TypeId}{x bK v:Value}{eZ AR aq gN gW C3:Option Value}(aw:jq σ B h w)(qI:(∃n e,P.underlying t=some (.array n e))->tX h H x)(ao:cg σ x bK)(r9:xw σ eZ AR)(C4:xw σ aq gN)(AS:xw σ gW C3)
  (U:(H6 P t).f x eZ aq gW H=some v):∃aQ,(Instr.sliceAt t bK AR gN C3).run P w=.ok aQ w/\cg σ v aQ:=by
 unfold H6 at U;cases bD:P.underlying t with
 | none=>simp_all
 | some iH=>
  rw[bD]at U;cases iH<;>simp only at U<;>first|(cases U;done)|skip
  case string=>
   unfold yF at U;cases x<;>simp only at U<;>first|(cases U;done)|skip
   rename_i s;rw[ao.yQ];cases gW with
   | some _=>cases U
   | none=>
    cases AS;simp only at U;cases ad:ow (fE s.data.toList) aq with
    | none=>simp_all
    | some hh=>
     rw[ad]at U;simp only at U;cases af:qE hh eZ with
     | none=>simp_all
     | some l=>
      rw[af]at U;cases U;have hlen:fE s.data.toList=s.size:=by simp_all[gX]
      rw[hlen]at ad;obtain⟨m,fj,fl,iJ,ng⟩:=Nq (P:=P) (C2:=false) r9 C4 .none (Nat.le_refl s.size) ad af (n0:=false) rfl w;refine⟨.string (s.extract l hh),?_,?_⟩
      ·simp only[Instr.sliceAt,Instr.slice,Sem.run_bind,run_underlying bD,Result.andThen_ok,Option.isSome_none,Bool.false_eq_true,if_false,Sem.run_pure,fj]
      ·have:(⟨(pw (p3 s.data.toList l) (hh-l)).toArray⟩:ByteArray)=s.extract l hh:=by
        apply ByteArray.ext;apply Array.ext'
        simp_all[mD,nE]
       rw[this];exact .string
  case slice e=>
   cases eU:gM P e with
   | none=>simp_all
   | some size=>
    rw[eU]at U;simp only at U;split at U
    case h_2=>cases U
    case h_1 bM=>
    rw[blt_eq]at bM;have bM:=of_decide_eq_true bM;simp only[hP]at U;cases x<;>simp only at U<;>first|(cases U;done)|skip
    rename_i a len c;split at U
    case h_2=>cases U
    case h_1 hh ad=>
    split at U
    case h_2=>cases U
    case h_1 l af=>
    split at U
    case h_2=>cases U
    case h_1 n0 ax=>
    have eC:∀(cr:Option Addr) (cap:Nat) (fZ:Bool),bK=.slice cr len cap->len<=cap->(n0=true->fZ=true)->(fZ=true->n0=false->hh=cap)->rj size a l hh fZ=some v->
      (match a with
       | none=>cr=none/\len=0/\cap=0
       | some a=>∃c o s,σ a.block=some (c,o,s)/\cr.isSome=true/\((len=0/\cap=0)\/(cr=some ⟨c,o+a.off,none⟩/\o+a.off+cap*size<=s)))->
      ∃aQ,(Instr.sliceAt t bK AR gN C3).run P w=.ok aQ w/\cg σ v aQ:=by
     intro cr cap fZ cP kP C6 aBh rq jJ;subst cP;obtain⟨m,fj,fl,iJ,ng⟩:=Nq (P:=P) (C2:=true) r9 C4 AS kP ad af ax w;refine⟨_,?_,UG (m:=m) (cap:=cap) (cr:=cr) bM rq fl ?_ (by omega) ?_⟩
     ·simp only[Instr.sliceAt,Instr.slice,Sem.run_bind,run_underlying bD,Result.andThen_ok,fj,oA eU,Sem.run_pure]
     ·grind
     ·cases a with
      | none=>simp_all
      | some a=>grind
    cases ao
    case mE _=>
     have hZ:Nat.beq 0 (2*size+1)=false:=by rfl
     rw[hZ]at U;simp only[Bool.or_true,Nat.beq_refl]at U;exact eC none 0 n0 rfl (Nat.le_refl _) id (fun a b=>by simp_all) U ⟨rfl,rfl,rfl⟩
    case oy id off o4 cc o s a eg rp jJ _=>
     split at U
     case h_1 aA=>
      obtain rfl:o4=size:=by grind[Nat.eq_of_beq_eq_true]
      refine eC (some a) len (n0||Nat.beq hh len) rfl (Nat.le_refl _) (fun e=>by simp[e]) (fun bn bF=>?_) U ⟨cc,o,s,eg,rfl,?_⟩
      ·simp_all
      simp_all
     case h_2 aA=>
      split at U
      case h_2=>cases U
      case h_1 wt=>
      simp only[Bool.or_eq_true]at wt
      grind[Nat.eq_of_beq_eq_true]
    case n5 id off o4 cap cc o s a eg rp kP jJ _=>
     split at U
     case h_1 aA=>grind[Nat.eq_of_beq_eq_true]
     case h_2 aA=>
      split at U
      case h_2=>cases U
      case h_1 wt=>
      simp only[Bool.or_eq_true]at wt;obtain rfl:o4=size:=by grind[Nat.eq_of_beq_eq_true]
      refine eC (some a) cap n0 rfl kP (fun e=>e) (fun bn bF=>by simp_all) U ⟨cc,o,s,eg,rfl,?_⟩
      grind
  case array n e=>
   cases eU:gM P e with
   | none=>simp_all
   | some size=>
    rw[eU]at U;simp only at U;split at U
    case h_2=>cases U
    case h_1 bM=>
    rw[blt_eq]at bM;have bM:=of_decide_eq_true bM;simp only[me]at U;cases x<;>simp only at U<;>first|(cases U;done)|skip
    rename_i a;cases a with
    | none=>cases U
    | some a=>
     obtain⟨id,off,cF⟩:=a;obtain⟨rfl,c,o,s,rfl,eg⟩:=ao.Fk;simp only at U;split at U
     case h_1=>cases U
     case h_2 b hg=>
     split at U
     case h_1=>cases U
     case h_2 CZ=>
     rw[l3,gX]at CZ;have CZ:=of_decide_eq_true CZ;split at U
     case h_2=>cases U
     case h_1 hh ad=>
     split at U
     case h_2=>cases U
     case h_1 l af=>
     split at U
     case h_2=>cases U
     case h_1 n0 ax=>
     obtain⟨cC,dv,cm,dk,c2,et,bn,bF,ey,i6,hQ,_⟩:=aw.fu id b (qI ⟨_,_,bD⟩ id rfl b hg);rw[eg]at bn;cases bn;obtain⟨m,fj,fl,iJ,ng⟩:=Nq (P:=P) (C2:=false) r9 C4 AS (Nat.le_refl n) ad af ax w;refine⟨_,?_,UG (m:=m) (cap:=n) (cr:=some ⟨c,o+off,none⟩) bM U fl ?_ iJ ⟨c,o,s,eg,rfl,.inr ⟨rfl,by grind⟩⟩⟩
     ·simp only[Instr.sliceAt,Instr.sureAddr,Sem.run_bind,run_underlying bD,Result.andThen_ok,Sem.run_pure,fj,oA eU]
      grind
     grind[Nat.eq_of_beq_eq_true]
end
end Go.Ab
namespace Go.Ab
open Go
section
variable{P:Program}{σ:cQ}{B:Nat}{h:Nat->Option az}{H ab:au}{w:World}
theorem Nr{o:Nat}{x bK v:Value}(ao:cg σ x bK)(U:cB o x=some v):∃a,bK=.pointer (some a)/\cg σ v (.pointer (some (a.add o))):=by
 unfold cB at U;cases x<;>simp only at U<;>first|(cases U;done)|skip
 rename_i a;cases a with
 | none=>cases U
 | some a=>obtain⟨id,off,cF⟩:=a;obtain⟨rfl,c,q,s,rfl,eg⟩:=ao.Fk;cases U;refine⟨_,rfl,?_⟩;rw[CS,Nat.add_assoc];exact .ak id (off+o) c q s eg .nil
theorem aiy{s:TypeId}{f:Nat}{x bK v:Value}(ao:cg σ x bK)(U:(yG P s f).f x=some v)(w:World):∃aQ,(Instr.fieldAt s bK f).run P w=.ok aQ w/\cg σ v aQ:=by
 unfold yG at U;split at U
 case h_2=>cases U
 case h_1 mY bD=>
 split at U
 case h_2=>cases U
 case h_1 c6 hf=>
 split at U
 case h_1=>cases U
 case h_3=>cases U
 case h_2 n AO eU=>
 have aX:n≠0:=fun e=>AO e
 obtain⟨a,rfl,hv⟩:=Nr ao U
 simp_all[Instr.fieldAt,run_underlying,Instr.sureAddr,fieldPlace,oA]
theorem UH{n:Nat}{x i v:Value}{size:Nat}(U:eQ n size x i=some v):∃k j,i=.int k j/\0<=j/\j.toNat<n/\cB (j.toNat*size) x=some v:=by
 unfold eQ at U;cases i<;>simp only at U<;>first|(cases U;done)|skip
 rename_i k j;rw[ly,blt_eq]at U
 grind
theorem aiz{t:TypeId}{x bK i xi v:Value}(ao:cg σ x bK)(aq:cg σ i xi)(U:(H8 P t).f x i=some v)(w:World):∃aQ,(Instr.indexAt t bK xi).run P w=.ok aQ w/\cg σ v aQ:=by
 unfold H8 at U;cases bD:P.underlying t with
 | none=>simp_all
 | some iH=>
  rw[bD]at U;cases iH<;>simp only at U<;>first|(cases U;done)|skip
  case array n e=>
   cases eU:gM P e with
   | none=>simp_all
   | some size=>
    rw[eU]at U;obtain⟨k,j,rfl,aR,ad,af⟩:=UH U;rw[aq.oz];obtain⟨a,rfl,hv⟩:=Nr ao af;refine⟨_,?_,hv⟩;simp only[Instr.indexAt,asIntOf,Sem.run_bind,Sem.run_pure,Result.andThen_ok,run_underlying bD,Instr.sureAddr]
    simp_all[oA]
  case slice e=>
   cases eU:gM P e with
   | none=>simp_all
   | some size=>
    rw[eU]at U;simp only[iu]at U;cases x<;>simp only at U<;>first|(cases U;done)|skip
    rename_i a n c;obtain⟨k,j,rfl,aR,ad,af⟩:=UH U;rw[aq.oz];have eC:∀(cr:Addr) (Ns ub:Nat),bK=.slice (some cr) Ns ub->Ns=n->cg σ (.pointer a) (.pointer (some cr))->∃aQ,(Instr.indexAt t bK (.int k j)).run P w=.ok aQ w/\cg σ v aQ:=by
     intro cr Ns ub bn bF bM;subst bn;subst bF;obtain⟨da,ey,hv⟩:=Nr bM af;cases ey;refine⟨_,?_,hv⟩;simp only[Instr.indexAt,asIntOf,Sem.run_bind,Sem.run_pure,Result.andThen_ok,run_underlying bD,Instr.sureAddr]
     simp_all[oA]
    cases ao
    case mE _=>omega
    case oy id off o4 cc o s a eg rp jJ _=>
     rcases jJ with rfl|⟨rfl,_⟩
     ·omega
     ·exact eC _ _ _ rfl rfl (.ak _ _ _ _ _ eg .nil)
    case n5 id off o4 cap cc o s a eg rp kP jJ _=>
     rcases jJ with⟨rfl,_⟩|⟨rfl,_⟩
     ·exact eC _ _ _ rfl rfl (.ak _ _ _ _ _ eg .nil)
     omega
theorem UI{t:TypeId}{ar:List Value}{bx:Array Value}{off:Nat}{v:Value}(aA:bG σ ar bx.toList)(U:(CI P t).f ar off=some v)(w:World):
  ∃aQ,(part t bx off).run P w=.ok aQ w/\cg σ v aQ:=by
 refine Fl aA ?_ w
 grind[CI,sS]
theorem aiA{t:TypeId}{x bK i xi v:Value}(ao:cg σ x bK)(aq:cg σ i xi)(U:(Ia P t).f x i=some v)(w:World):∃aQ,(Instr.index t bK xi).run P w=.ok aQ w/\cg σ v aQ:=by
 unfold Ia at U;cases bD:P.underlying t with
 | none=>simp_all
 | some iH=>
  rw[bD]at U;cases iH<;>simp only at U<;>first|(cases U;done)|skip
  case array n e=>
   cases eU:gM P e with
   | none=>simp_all
   | some size=>
    rw[eU]at U;simp only[H9]at U;cases x<;>simp only at U<;>first|(cases U;done)|skip
    rename_i ar;cases i<;>simp only at U<;>first|(cases U;done)|skip
    rename_i k j;rw[aq.oz];obtain⟨bx,rfl,C7⟩:=ao.CT;rw[ly,blt_eq]at U;split at U
    case h_2=>cases U
    case h_1 aR=>
    split at U
    case h_2=>cases U
    case h_1 ad=>
    have aR:=of_decide_eq_true aR;have ad:=of_decide_eq_true ad;obtain⟨aQ,dK,bI⟩:=UI C7 U w
    simp_all[Instr.index,asIntOf,run_underlying,oA]
  case string=>
   simp only[E6]at U;cases x<;>simp only at U<;>first|(cases U;done)|skip
   rename_i s;cases i<;>simp only at U<;>first|(cases U;done)|skip
   rename_i k j;rw[ao.yQ,aq.oz];rw[ly]at U;split at U
   case h_2=>cases U
   case h_1 aR=>
   have aR:=of_decide_eq_true aR;rw[vb]at U;cases an:s.data.toList[j.toNat]? with
   | none=>simp_all
   | some b=>
    rw[an]at U;cases U;refine⟨.int .u8 b.toNat,?_,.int⟩;have:s[j.toNat]?=some b:=by
     have jV:s.data[j.toNat]?=some b:=by simp_all
     obtain⟨ea,Fw⟩:=Array.getElem?_eq_some_iff.1 jV;rw[getElem?_pos s j.toNat ea];exact congrArg some Fw
    simp_all[Instr.index,asIntOf,run_underlying]
theorem aiB{t:TypeId}{f:Nat}{x bK v:Value}(ao:cg σ x bK)(U:(Ib P t f).f x=some v)(w:World):∃aQ,(Instr.field t bK f).run P w=.ok aQ w/\cg σ v aQ:=by
 unfold Ib at U;split at U
 case h_2=>cases U
 case h_1 mY bD=>
 split at U
 case h_2=>cases U
 case h_1 c6 hf=>
 simp only at U;cases x<;>simp only at U<;>first|(cases U;done)|skip
 rename_i ar;obtain⟨bx,rfl,C7⟩:=ao.CT;obtain⟨aQ,dK,bI⟩:=UI C7 U w
 simp_all[Instr.field,run_underlying,asAgg]
theorem aiC{t a:TypeId}{ok:Bool}{x bK v:Value}(ao:cg σ x bK)(U:(Ap P a ok).f x=some v)(w:World):∃aQ,(Instr.typeAssert bK t a ok).run P w=.ok aQ w/\cg σ v aQ:=by
 unfold Ap at U;have Nt:∀(aU oD:Value) (b:Bool),cg σ aU oD->cg σ (.tuple #[aU,.bool b]) (.tuple #[oD,.bool b]):=fun aU oD b bD=>.tuple _ _ (bD.cons (.bool b .nil)) .nil
 cases bD:P.underlying a with
 | none=>simp_all
 | some iH=>
  have vd:(match iH with|.interface _=>true|_=>false)=false:=by cases iH<;>first|rfl|simp_all
  have iK:(if ok then(⟨mB a (h3 P a)⟩:H7)else⟨yI a⟩).f x=some v:=by grind
  clear U;cases ok with
  | true=>
   simp only[if_true,mB]at iK;cases ao<;>simp only at iK<;>first|(cases iK;done)|skip
   case nilIface _=>
    cases eu:h3 P a with
    | none=>simp_all
    | some z=>rw[eu]at iK;cases iK;obtain⟨nf,oB⟩:=sZ eu w;refine⟨.tuple #[z,.bool false],?_,Nt _ _ _ (vc oB)⟩;cases iH<;>first|(cases vd;done)|(simp[Instr.typeAssert,run_underlying bD,nf])
   case iface aU aiD Nu ad _=>
    split at iK
    ·rename_i he;cases iK;have he:=Nat.eq_of_beq_eq_true he;subst he;refine⟨.tuple #[Nu,.bool true],?_,Nt _ _ _ ad⟩;cases iH<;>first|(cases vd;done)|(simp[Instr.typeAssert,run_underlying bD])
    ·rename_i he;have he:aU≠a:=fun e=>by simp_all
     cases eu:h3 P a with
     | none=>simp_all
     | some z=>rw[eu]at iK;cases iK;obtain⟨nf,oB⟩:=sZ eu w;refine⟨.tuple #[z,.bool false],?_,Nt _ _ _ (vc oB)⟩;cases iH<;>first|(cases vd;done)|(simp[Instr.typeAssert,run_underlying bD,nf,he])
  | false=>
   simp only[Bool.false_eq_true,if_false,yI]at iK;cases ao<;>simp only at iK<;>first|(cases iK;done)|skip
   case iface aU aiD Nu ad _=>
    split at iK
    ·rename_i he;cases iK;have he:=Nat.eq_of_beq_eq_true he;subst he;refine⟨Nu,?_,ad⟩;cases iH<;>first|(cases vd;done)|(simp[Instr.typeAssert,run_underlying bD])
    grind
theorem Nv:∀(l aG:List Value) (m:List UInt8),bG σ l aG->u3 l=some m->aG=l
 | [],aG,m,hv,_=>by rw[hv.qG]
 | y::r,aG,m,hv,aV=>by
  obtain⟨fi,dD,rfl,ba,gI⟩:=hv.nc;unfold u3 at aV;cases y<;>simp only at aV<;>first|(cases aV;done)|skip
  rename_i k n;cases k<;>simp only at aV<;>first|(cases aV;done)|skip
  cases p7:u3 r with
  | none=>rw[p7]at aV;cases aV
  | some dG=>rw[ba.oz,Nv r dD dG gI p7]
theorem UJ:∀(l:List Value) (m:List UInt8) (jr:ByteArray),u3 l=some m->(forIn (m:=Sem) l jr (fun c r=>(match c with
   | .int .u8 n=>(pure (ForInStep.yield (r.push (UInt8.ofNat n.toNat))):Sem (ForInStep ByteArray))
   | _=>do stuck "bytesToString: byte expected";pure (ForInStep.yield r)))).run P w= .ok ⟨(jr.data.toList++m).toArray⟩ w
 | [],m,jr,aV=>by cases aV;simp
 | y::r,m,jr,aV=>by
  unfold u3 at aV;cases y<;>simp only at aV<;>first|(cases aV;done)|skip
  rename_i k n;cases k<;>simp only at aV<;>first|(cases aV;done)|skip
  cases p7:u3 r with
  | none=>rw[p7]at aV;cases aV
  | some dG=>
   rw[p7]at aV;simp at aV;subst aV;simp only[List.forIn_cons,Sem.run_bind,Sem.run_pure,Result.andThen_ok];have bd:=UJ r dG (jr.push (UInt8.ofNat n.toNat)) p7;rw[bd];have e:(jr.push (UInt8.ofNat n.toNat)).data.toList=jr.data.toList++[UInt8.ofNat n.toNat]:=by show(jr.data.push _).toList=_;simp
   rw[e];simp
theorem aiE(w:World)(dk:Array Value)(t:TypeId):World.freeze {w with heap:=w.heap.push (.cells dk t (0,0))} {block:=w.heap.size,off:=dk.size} 1=
  {w with heap:=w.heap.push (.cells dk t (dk.size,dk.size+1))}:=by
 unfold World.freeze;rw[if_neg (by omega)]
 congr 1
 grind
theorem aiF{tM dst:TypeId}{x bK v:Value}(aw:jq σ B h w)(ck:B<=w.heap.size)(e4:∀i,H.next<=i->i<ab.next->σ i=none)(qI:(∃e,P.underlying tM=some (.slice e))->tX h H x)(ao:cg σ x bK)(U:(Ak P tM dst).f x H=some (v,ab)):
  gG P B (convert tM dst bK) w σ h H v ab:=by
 unfold Ak at U;cases aJ:P.underlying dst with
 | none=>simp_all
 | some eR=>
  rw[aJ]at U;cases eR<;>simp only at U<;>first|(cases U;done)|skip
  case int k=>
   split at U
   case h_2=>cases U
   case h_1 aBi pD=>
   simp only at U;cases x<;>simp only at U<;>first|(cases U;done)|skip
   rename_i hx n;cases U;rw[ao.oz];refine gG.pure aw ⟨.int k (iY k n),?_,.int⟩;rw[tV];simp only[convert,Sem.run_bind,run_underlying pD,run_underlying aJ,Result.andThen_ok];rfl
  case string=>
   cases pD:P.underlying tM with
   | none=>simp_all
   | some aW=>
    rw[pD]at U;cases aW<;>simp only at U<;>first|(cases U;done)|skip
    case string=>
     cases x<;>simp only at U<;>first|(cases U;done)|skip
     cases U;rw[ao.yQ];refine gG.pure aw ⟨_,?_,.string⟩
     simp_all[convert,run_underlying]
    case slice e=>
     split at U
     case isFalse=>cases U
     case isTrue xy=>
     have C8:P.underlying e=some (.int .u8):=by grind[CD]
     simp only[v8]at U;have step:∀(a:Addr) (len cap:Nat) (l:List Value) (m:List UInt8),bK=.slice (some a) len cap->(loadCells a len).run P w=.ok l.toArray w->u3 l=some m->
       (convert tM dst bK).run P w=.ok (.string ⟨m.toArray⟩) w:=by
      intro a len cap l m bn bF ey;subst bn;have hG:=UJ (P:=P) (w:=w) l m ByteArray.empty ey;simp only[convert,Sem.run_bind,run_underlying pD,run_underlying aJ,Result.andThen_ok,run_underlying C8,Conv.bytesToString,bF];rw[<- Array.forIn_toList];exact congrArg (fun r:Result ByteArray=>r.andThen fun a aL=>Sem.run P (pure (Value.string a)) aL) hG
     cases ao<;>simp only at U<;>first|(cases U;done)|skip
     case mE _=>cases U;refine gG.pure aw ⟨.string ⟨#[]⟩,?_,.string⟩;simp only[convert,Sem.run_bind,run_underlying pD,run_underlying aJ,Result.andThen_ok,run_underlying C8,Conv.bytesToString,Sem.run_pure];rfl
     case oy id off len o4 c o s a eg rp jJ _=>
      split at U
      case isTrue aR=>cases U;have aR:=Nat.eq_of_beq_eq_true aR;subst aR;exact gG.pure aw ⟨_,step a 0 0 [] [] rfl (by rfl) rfl,.string⟩
      case isFalse aR=>
       have aR:len≠0:=fun e=>by simp_all
       obtain⟨rfl,_⟩:=jJ.resolve_left aR;split at U
       case h_2=>cases U
       case h_1 l aD=>
       split at U
       case h_2=>cases U
       case h_1 m aV=>
       cases U;obtain⟨aG,bP,ca,dH⟩:=AL (P:=P) aw (qI ⟨_,pD⟩ id rfl) aD eg;rw[Nv _ _ _ ca aV]at bP;exact gG.pure aw ⟨_,step _ _ _ l m rfl bP aV,.string⟩
     case n5 id off len o4 cap c o s a eg rp kP jJ _=>
      split at U
      case isTrue aR=>cases U;have aR:=Nat.eq_of_beq_eq_true aR;subst aR;exact gG.pure aw ⟨_,step a 0 cap [] [] rfl (by rfl) rfl,.string⟩
      case isFalse aR=>
       have aR:len≠0:=fun e=>by simp_all
       obtain rfl:a=⟨c,o+off,none⟩:=by simp_all
       split at U
       case h_2=>cases U
       case h_1 l aD=>
       split at U
       case h_2=>cases U
       case h_1 m aV=>
       cases U;obtain⟨aG,bP,ca,dH⟩:=AL (P:=P) aw (qI ⟨_,pD⟩ id rfl) aD eg;rw[Nv _ _ _ ca aV]at bP;exact gG.pure aw ⟨_,step _ _ _ l m rfl bP aV,.string⟩
  case slice e=>
   cases pD:P.underlying tM with
   | none=>simp_all
   | some aW=>
    rw[pD]at U;cases aW<;>simp only at U<;>first|(cases U;done)|skip
    case string=>
     split at U
     case isFalse=>cases U
     case isTrue xy=>
     have C8:P.underlying e=some (.int .u8):=by grind[CD]
     simp only[Aj]at U;cases x<;>simp only at U<;>first|(cases U;done)|skip
     rename_i s;rw[ao.yQ]
     let cap:=(Question.appendCap s.size 0 e).cut (w.tape w.drawn (.appendCap s.size 0 e))
     let pE:List Value:=s.data.toList.map v7
     let dP:List Value:=List.replicate (cap-s.size) (.int .u8 0)
     have yR:s.size<=cap:=by show s.size<=s.size+_;omega
     have hlen:pE.length+dP.length=cap:=by
      have:pE.length=s.size:=by simp[pE]
      grind
     obtain⟨τ,id,rfl,lN,hg⟩:=CW (bx:=pE) (dP:=dP) aw ck e4 (bG.Ud .u8 (fun b:UInt8=>((b.toNat:Nat):Int)) s.data.toList) e (cap,cap+1) ⟨by simp,by grind⟩ (w.drawn+1) U;refine⟨.slice (some ⟨w.heap.size,0,none⟩) s.size cap,_,τ,?_,?_,hg⟩
     ·have bn:(s.data.map fun b=>Value.int .u8 b.toNat)++Array.replicate (cap-s.size) (.int .u8 0)=(pE++dP).toArray:=by grind[v7]
      have eU:(pE++dP).toArray.size=cap:=by simp_all
      have b5:(Question.appendCap s.size 0 e).forced=false:=rfl;simp only[convert,Sem.run_bind,run_underlying pD,run_underlying aJ,Result.andThen_ok,run_underlying C8,Conv.stringToBytes,run_choose,b5,Bool.false_eq_true,if_false,Sem.run_pure,newRow,run_newObj];have Nw:(s.data.map fun b=>Value.int .u8 b.toNat)++Array.replicate ((Question.appendCap s.size 0 e).cut (w.tape w.drawn (.appendCap s.size 0 e))-s.size) (.int .u8 0)=(pE++dP).toArray:=bn;rw[Nw];have o5:∀W:World,W.heap=w.heap.push (.cells (pE++dP).toArray e (0,0))->W.shape? w.heap.size=some (e,cap):=by simp_all[World.shape?]
      simp only[markStringish,Sem.run_bind,run_shape,Result.andThen_ok];rw[o5 _ rfl];simp only[run_freeze,Result.andThen_ok];have hf:=aiE {w with drawn:=w.drawn+1} (pE++dP).toArray e
      grind
     ·have bF:fE s.data.toList=s.size:=by simp_all[gX]
      rw[bF];rw[hlen]at lN;exact CU (size:=1) lN (by omega) yR (by omega)
    case slice qb=>
     split at U
     case isFalse=>cases U
     case isTrue xy=>
     rw[Bool.and_eq_true]at xy;obtain⟨xy,xp⟩:=xy;have xp:tM=dst:=Nat.eq_of_beq_eq_true xp;have C8:P.underlying e=some (.int .u8):=by grind[CD]
     simp only[wa]at U;split at U
     case h_2=>cases U
     case h_1 Nx len cc=>
     split at U
     case h_1=>cases U
     case h_2 id off cF=>
     split at U
     case h_1=>cases U
     case h_2=>
     split at U
     case h_1=>cases U
     case h_2 sc=>
     split at U
     case h_2=>cases U
     case h_1 b hg=>
     split at U
     case h_2=>cases U
     case h_1 aBj=>
     cases U;have aM:b.wr=true:=by simp_all[au.ou]
     have hlen:len≠0:=fun e=>by simp_all
     have s4:=ao;have aiG:∃c o s cap,bK=.slice (some ⟨c,o+off,none⟩) len cap/\σ id=some (c,o,s):=by
      cases ao
      case oy=>simp_all
      simp_all
     obtain⟨c,o,s,cap,rfl,eg⟩:=aiG;have an:h id=some b:=qI ⟨_,pD⟩ id rfl b hg;obtain⟨cC,dv,cm,dk,c2,et,bn,bF,_⟩:=aw.fu id b an;rw[eg]at bn;cases bn;have IJ:=ahK (n:=H.next) aw id b an aM c o s dk c2 et eg bF;refine⟨_,w.freeze {block:=c,off:=dk.size} 1,σ,?_,s4,?_⟩
     ·have aiH:w.shape? c=some (c2,dk.size):=by simp_all[World.shape?]
      subst xp;rw[aJ]at pD;cases pD;simp only[convert,Sem.run_bind,run_underlying aJ,Result.andThen_ok,run_underlying C8,beq_self_eq_true,markStringish,run_shape,aiH,run_freeze,Sem.run_pure]
     simp_all[AD]
end
end Go.Ab
