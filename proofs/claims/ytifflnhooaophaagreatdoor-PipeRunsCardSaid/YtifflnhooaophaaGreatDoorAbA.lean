/- texts of the kp, du behind the jV -/
import Derived.Calls
import Derived.WalkKit
import Derived.ChangeKeysEq
set_option linter.unusedVariables false
set_option linter.unusedSimpArgs false
set_option linter.unusedSectionVars false
open List Nat
abbrev aj:=List Go.Value
abbrev LI:=List Int
theorem U{p:Prop}(h:p:=by omega):p:=h
theorem ao{p:Prop}(h:p:=by rfl):p:=h
theorem a1{p:Prop}(h:p:=by simp_all):p:=h
theorem bT{p:Prop}(h:p:=by decide):p:=h
theorem aW{p:Prop}(h:p:=by simp):p:=h
theorem aT{p:Prop}(h:p:=by grind):p:=h
namespace Go.Ab
open Go
noncomputable section
variable{α:Type}
inductive Tr (α:Type) where
 | nil
 | jn (l:Tr α) (v:Option α) (r:Tr α)
namespace Tr
def get(t:Tr α):Nat->Option α:=
 Tr.rec (motive:=fun _=>Nat->Option α) (fun _=>Option.none)
  (fun _ v _ a b n=>Nat.rec (motive:=fun _=>Option α) v (fun k _=>cond (beq (Nat.mod k 2) 0) (a (Nat.div k 2)) (b (Nat.div k 2))) n) t
def set(t:Tr α):Nat->Option α->Tr α:=
 Tr.rec (motive:=fun _=>Nat->Option α->Tr α) (fun n v=>Nat.rec (motive:=fun _=>Tr α) (.jn .nil v .nil) (fun _ _=>.nil) n)
  (fun l x r a b n v=>Nat.rec (motive:=fun _=>Tr α) (.jn l v r) (fun k _=>cond (beq (Nat.mod k 2) 0) (.jn (a (Nat.div k 2) v) x r) (.jn l x (b (Nat.div k 2) v))) n) t
end Tr
def m3{α:Type}(l:List α):Nat->List α:=
 List.rec (motive:=fun _=>Nat->List α) (fun _=>[]) (fun x _ a n=>Nat.rec (motive:=fun _=>List α) [] (fun k _=>x::a k) n) l
def nI{α:Type}(l:List α):Nat->List α:=
 List.rec (motive:=fun _=>Nat->List α) (fun _=>[]) (fun x r a n=>Nat.rec (motive:=fun _=>List α) (x::r) (fun k _=>a k) n) l
def gx{α:Type}(l m:List α):List α:=List.rec (motive:=fun _=>List α) m (fun x _ a=>x::a) l
def e6{α:Type}(l:List α):Nat:=List.rec (motive:=fun _=>Nat->Nat) (fun n=>n) (fun _ _ a n=>a (succ n)) l 0
def lW{α:Type}(l:List α):Nat->Option α:=
 List.rec (motive:=fun _=>Nat->Option α) (fun _=>none) (fun x _ a n=>Nat.rec (motive:=fun _=>Option α) (some x) (fun k _=>a k) n) l
def hH{α:Type}(p:α->Bool)(l:List α):Bool:=List.rec (motive:=fun _=>Bool) true (fun x _ a=>cond (p x) a false) l
def hq(a b:Int):Bool:=Int.rec (motive:=fun _=>Bool) (fun m=>Int.rec (motive:=fun _=>Bool) (fun n=>ble m n) (fun _=>false) b) (fun m=>Int.rec (motive:=fun _=>Bool) (fun _=>true) (fun n=>ble n m) b) a
def mN(a b:Int):Bool:=Int.rec (motive:=fun _=>Bool) (fun m=>Int.rec (motive:=fun _=>Bool) (fun n=>beq m n) (fun _=>false) b) (fun m=>Int.rec (motive:=fun _=>Bool) (fun _=>false) (fun n=>beq n m) b) a
def bS(l:aj):Nat->Value:=
 List.rec (motive:=fun _=>Nat->Value) (fun _=>undef) (fun x _ a n=>Nat.rec (motive:=fun _=>Value) x (fun k _=>a k) n) l
def fZ(l:aj):Nat->Value->aj:=
 List.rec (motive:=fun _=>Nat->Value->aj) (fun _ _=>[]) (fun x r a n v=>Nat.rec (motive:=fun _=>aj) (v::r) (fun k _=>x::a k v) n) l
def qm{α:Type}(p:α->α->Bool)(l:List α):List α->Bool:=
 List.rec (motive:=fun _=>List α->Bool) (fun m=>List.rec (motive:=fun _=>Bool) true (fun _ _ _=>false) m)
  (fun x _ a m=>List.rec (motive:=fun _=>Bool) false (fun y r _=>cond (p x y) (a r) false) m) l
def vE(x:Value)(o:Option aj):Option aj:=match o with
 | some l=>some (x::l)
 | none=>none
def Gh(n:Nat):aj->aj:=
 Nat.rec (motive:=fun _=>aj->aj) (fun l=>l) (fun _ a l=>List.rec (motive:=fun _=>aj) [] (fun _ r _=>a r) l) n
def Gi(n:Nat):aj->Option aj:=
 Nat.rec (motive:=fun _=>aj->Option aj) (fun _=>some []) (fun _ a l=>List.rec (motive:=fun _=>Option aj) none (fun x r _=>vE x (a r)) l) n
def Gj(l:aj)(o n:Nat):Option aj:=Gi n (Gh o l)
def zG(vs:aj):aj->Option aj:=
 List.rec (motive:=fun _=>aj->Option aj) (fun l=>some l) (fun v _ a l=>List.rec (motive:=fun _=>Option aj) none (fun _ r _=>vE v (a r)) l) vs
def Mt(k:aj->Option aj)(n:Nat):aj->Option aj:=
 Nat.rec (motive:=fun _=>aj->Option aj) k (fun _ a l=>List.rec (motive:=fun _=>Option aj) none (fun x r _=>vE x (a r)) l) n
def Gk(l:aj)(o:Nat)(vs:aj):Option aj:=Mt (zG vs) o l
def qn:IntKind->IntKind->Bool
 | .i64,.i64=>true|.u64,.u64=>true|.u8,.u8=>true|.u32,.u32=>true
 | .i8,.i8=>true|.i16,.i16=>true|.i32,.i32=>true|.u16,.u16=>true
 | _,_=>false
structure ef where
 cells:aj
 wr:Bool
abbrev LB:=List (Nat×ef)
abbrev aa(p:Nat) (c:aj):Nat×ef:=(p,⟨c,true⟩)
inductive lX where
 | normal|exit (id:Nat)|ret
inductive vF where
 | ready|busy|over (e:lX)
structure iZ where
 T:aj
 bv:List Tmp
 cD:Code
 body:Code
 st:vF
def k2(l:iZ):Bool:=match l.st with
 | .over e=>match e with|.normal=>true|_=>false
 | _=>false
def ij(T:aj):iZ:=⟨T,[],.skip,.skip,.over .normal⟩
def dV(l:List (Nat×iZ))(i:Nat):Option iZ:=List.rec (motive:=fun _=>Option iZ) none (fun x _ a=>cond (beq x.1 i) (some x.2) a) l
def jW(l:List (Nat×iZ))(i:Nat)(v:iZ):List (Nat×iZ):=List.rec (motive:=fun _=>List (Nat×iZ)) [] (fun x r a=>cond (beq x.1 i) ((i,v)::r) (x::a)) l
structure an where
 t:Tr ef
 next:Nat
 cX:Nat
 c5:List (Nat×iZ)
def an.get(H:an)(i:Nat):Option ef:=H.t.get i
def an.set(H:an)(i:Nat)(b:Option ef):an:={H with t:=H.t.set i b}
def an.lY(H:an)(i:Nat)(b:ef):Bool:=b.wr&&ble H.cX i
def an.ci(H:an)(ag:aj):Option (Nat×an):=
 some (H.next,⟨H.t.set H.next (some ⟨ag,true⟩),succ H.next,H.cX,H.c5⟩)
def cS:Value->Bool
 | .agg _=>false
 | .tuple _=>false
 | _=>true
def xg:Value->Bool
 | .bool _=>true
 | .int _ _=>true
 | .string _=>true
 | .pointer a=>match a with|none=>true|some _=>false
 | .slice a n c=>match a with|none=>beq n 0&&beq c 0|some _=>false
 | .map r=>match r with|none=>true|some _=>false
 | .nilFunc=>true
 | .nilIface=>true
 | .func fn first cap=>match fn with|.func _=>beq (e6 first.toList) 0&&beq (e6 cap.toList) 0|_=>false
 | _=>false
def xh:Value->Bool
 | .agg ag=>hH xg ag.toList
 | .tuple vs=>beq (e6 vs.toList) 0
 | v=>xg v
def es(v:Value):aj:=match v with|.agg ag=>ag.toList|v=>[v]
section
variable(P:Program)
def m4(t:TypeId):Option Bool:=match P.underlying t with|some (.struct _)=>some true|some (.array _ _)=>some true|some _=>some false|none=>none
def fQ(t:TypeId):Option Nat:=(P.info? t).map (·.size)
def gy(t:TypeId):Option Value:=match P.info? t with
 | some i=>match i.zero with
  | some z=>cond (xh z) (some z) none
  | none=>none
 | none=>none
def ta(l:aj)(n:Nat):Option aj:=match beq (e6 l) n with|true=>some l|false=>none
def o2(H:an)(id off n:Nat):Option aj:=
 match H.get id with
 | some b=>Gj b.cells off n
 | none=>none
def rm(H:an)(id off:Nat)(vs:aj):Option an:=
 match H.get id with
 | some b=>
  match H.lY id b&&hH cS vs with
  | true=>match Gk b.cells off vs with
   | some ag=>some (H.set id (some ⟨ag,b.wr⟩))
   | none=>none
  | false=>none
 | none=>none
def rn(gK:Nat->Option (Nat×Nat)):aj->List (Nat×Value)->Option aj 
 | cells,[]=>some cells
 | cells,(i,v)::di=>
  match gK i with
  | none=>none
  | some (off,size)=>
   let ag:=es v
   match beq (e6 ag) size&&ble (off+e6 ag) (e6 cells)with|true=>rn gK (gx (m3 cells off) (gx ag (nI cells (off+e6 ag)))) di|false=>none
def Cf(a:List Field)(i:Nat):Option (Nat×Nat):=match lW a i with
 | some f=>match fQ P f.type with
  | some n=>some (f.offset,n)
  | none=>none
 | none=>none
def Mu(l:Option aj):Option Value:=match l with
 | some l=>some (.agg l.toArray)
 | none=>none
structure Gl where f:List (Nat×Value)->Option Value
def eg(t:TypeId):Gl:=
 match gy P t with
 | some z=>match P.underlying t with
  | some (.struct b)=>match hH (fun f=>(fQ P f.type).isSome) b.toList with
   | true=>⟨fun a=>Mu (rn (Cf P b.toList) (es z) a)⟩
   | false=>⟨fun _=>none⟩
  | some (.array _ e)=>match fQ P e with
   | some size=>⟨fun a=>Mu (rn (fun i=>some (i*size,size)) (es z) a)⟩
   | none=>⟨fun _=>none⟩
  | _=>⟨fun _=>none⟩
 | none=>⟨fun _=>none⟩
def fr:Nat->aj->aj
 | 0,_=>[]
 | n+1,l=>gx l (fr n l)
def pE(t:TypeId)(ag:aj)(off:Nat):Option Value:=
 match m4 P t,fQ P t with
 | some true,some n=>some (.agg (m3 (nI ag off) n).toArray)
 | some false,some _=>lW ag off
 | _,_=>none
def eqFields(c:TypeId->Value->Value->Option Bool)(ae bl:aj):List Field->Option Bool
 | []=>some true
 | f::aK=>
  if f.name== "_" then none else
  match pE P f.type ae f.offset,pE P f.type bl f.offset with
  | some a,some b=>match c f.type a b with
   | some true=>eqFields c ae bl aK
   | r=>r
  | _,_=>none
def xi(c:Value->Value->Option Bool)(e:TypeId)(n:Nat)(ae bl:aj):Nat->Nat->Option Bool
 | 0,_=>some true
 | k+1,i=>
  match pE P e ae (i*n),pE P e bl (i*n)with
  | some a,some b=>match c a b with
   | some true=>xi c e n ae bl k (i+1)
   | r=>r
  | _,_=>none
def lZ:Nat->TypeId->Value->Value->Option Bool
 | 0,_,_,_=>none
 | d+1,t,x,y=>
  match P.underlying t,x,y with
  | some .bool,.bool a,.bool b=>some (a==b)
  | some (.int _),.int k a,.int eF b=>(match qn k eF with|true=>some (mN a b)|false=>none)
  | some .string,.string a,.string b=>some (a.data.toList==b.data.toList)
  | some (.pointer _),.pointer none,.pointer b=>some b.isNone
  | some (.pointer _),.pointer (some _),.pointer none=>some false
  | some (.interface _),.nilIface,.nilIface=>some true
  | some (.interface _),.nilIface,.iface _ _=>some false
  | some (.interface _),.iface _ _,.nilIface=>some false
  | some (.slice _),.slice none _ _,.slice b _ _=>some b.isNone
  | some (.slice _),.slice (some _) _ _,.slice none _ _=>some false
  | some (.func _ _ _),.nilFunc,.nilFunc=>some true
  | some (.func _ _ _),.nilFunc,.func _ _ _=>some false
  | some (.func _ _ _),.func _ _ _,.nilFunc=>some false
  | some (.struct c),.agg ae,.agg f=>if P.stoodInHeld t then none else eqFields P (lZ d) ae.toList f.toList c.toList
  | some (.array len e),.agg ae,.agg f=>match fQ P e with
   | some n=>xi P (lZ d e) e n ae.toList f.toList len 0
   | none=>none
  | _,_,_=>none
def qo(b a:Nat)(n:Int):Int:=
 match n with
 | .ofNat m=>match blt m b with
  | true=>.ofNat m
  | false=>cond (blt (m%a) b) (.ofNat (m%a)) (.negSucc (a-1-m%a))
 | .negSucc m=>match blt m b with
  | true=>.negSucc m
  | false=>cond (blt (m%a) b) (.negSucc (m%a)) (.ofNat (a-1-m%a))
def o3(a:Nat)(n:Int):Int:=
 match n with
 | .ofNat m=>.ofNat (m%a)
 | .negSucc m=>.ofNat (a-1-m%a)
def hk(k:IntKind)(n:Int):Int:=
 match k with
 | .i64=>qo 9223372036854775808 18446744073709551616 n
 | .u64=>o3 18446744073709551616 n
 | .u8=>o3 256 n
 | .u32=>o3 4294967296 n
 | .u16=>o3 65536 n
 | .i32=>qo 2147483648 4294967296 n
 | .i8=>qo 128 256 n
 | .i16=>qo 32768 65536 n
def l0(k:IntKind)(n:Int):Nat:=
 match k with
 | .i64=>(o3 18446744073709551616 n).toNat
 | .u64=>(o3 18446744073709551616 n).toNat
 | .u8=>(o3 256 n).toNat
 | .u32=>(o3 4294967296 n).toNat
 | .u16=>(o3 65536 n).toNat
 | .i32=>(o3 4294967296 n).toNat
 | .i8=>(o3 256 n).toNat
 | .i16=>(o3 65536 n).toNat
def Cg(op:BinOp):IntKind->Int->Int->Option Value:=
 match op with
 | .add=>fun k a b=>some (.int k (hk k (a+b)))
 | .sub=>fun k a b=>some (.int k (hk k (a-b)))
 | .mul=>fun k a b=>some (.int k (hk k (a*b)))
 | .quo=>fun k a b=>match mN b 0 with|true=>none|false=>some (.int k (hk k (a.tdiv b)))
 | .rem=>fun k a b=>match mN b 0 with|true=>none|false=>some (.int k (a.tmod b))
 | .and=>fun k a b=>some (.int k (hk k (land (l0 k a) (l0 k b))))
 | .or=>fun k a b=>some (.int k (hk k (lor (l0 k a) (l0 k b))))
 | .xor=>fun k a b=>some (.int k (hk k (Nat.xor (l0 k a) (l0 k b))))
 | .eql=>fun _ a b=>some (.bool (mN a b))
 | .neq=>fun _ a b=>some (.bool (not (mN a b)))
 | .lss=>fun _ a b=>some (.bool (not (hq b a)))
 | .leq=>fun _ a b=>some (.bool (hq a b))
 | .gtr=>fun _ a b=>some (.bool (not (hq a b)))
 | .geq=>fun _ a b=>some (.bool (hq b a))
 | _=>fun _ _ _=>none
def zH(op:BinOp):List UInt8->List UInt8->Option Value:=
 match op with
 | .add=>fun l r=>if ble (e6 l+e6 r) 9223372036854775807 then some (.string ⟨(gx l r).toArray⟩)else none
 | .eql=>fun l r=>some (.bool (l==r))
 | .neq=>fun l r=>some (.bool !(l==r))
 | .lss=>fun l r=>some (.bool (Op.bytesLess l r))
 | .leq=>fun l r=>some (.bool (Op.bytesLess l r||l==r))
 | .gtr=>fun l r=>some (.bool !(Op.bytesLess l r||l==r))
 | .geq=>fun l r=>some (.bool !(Op.bytesLess l r))
 | _=>fun _ _=>none
def ro:Operand->Bool
 | .const _=>true
 | _=>false
def tb(t:TypeId)(c:Bool):Value->Value->Bool
 | .nilIface,.nilIface=>c
 | .agg _,.agg _=>!P.eqGuardType P.depth t
 | _,_=>true
def Gm(op:BinOp)(t:TypeId)(c:Bool):Value->Value->Option Value:=
 match op with
 | .eql=>fun a b=>if tb P t c a b then(lZ P 100 t a b).map .bool else none
 | .neq=>fun a b=>if tb P t c a b then(lZ P 100 t a b).map fun r=>.bool !r else none
 | _=>fun _ _=>none
def vG(left:Bool)(k:IntKind)(a:Int)(b:Int):Option Value:=
 if b<0 then none else
 if left then some (.int k (hk k (a*((2^(min b.toNat k.bits):Nat):Int))))else some (.int k (a.fdiv ((2^(min b.toNat k.bits):Nat):Int)))
def xj:BinOp->Option Bool
 | .shl=>some true
 | .shr=>some false
 | _=>none
structure zI where f:Value->Value->Option Value
def cz(op:BinOp)(t:TypeId)(c:Bool):zI:=
 match xj op with
 | some l=>⟨fun a b=>match a with
  | .int k a=>match b with|.int _ b=>vG l k a b|_=>none
  | _=>none⟩
 | none=>⟨fun a b=>match a with
  | .int k a=>match b with|.int eF b=>(match qn k eF with|true=>Cg op k a b|false=>none)|_=>none
  | .string a=>match b with|.string b=>zH op a.data.toList b.data.toList|_=>none
  | .float _ _=>none
  | .complex _ _ _=>none
  | a=>Gm P op t c a b⟩
def kq(op:UnOp)(x:Value):Option Value:=
 match x with
 | .int k n=>match op with
  | .neg=>some (.int k (hk k (0-n)))
  | .xor=>some (.int k (hk k (Nat.xor (l0 k (if k.signed then-1 else k.max)) (l0 k n))))
  | _=>none
 | .bool b=>match op with
  | .not=>some (.bool !b)
  | _=>none
 | _=>none
def rp:aj->Option (List UInt8)
 | []=>some []
 | v::r=>match v with
  | .int k n=>match k with
   | .u8=>(rp r).map (UInt8.ofNat n.toNat::·)
   | _=>none
  | _=>none
def r9(b:UInt8):Value:=.int .u8 b.toNat
abbrev R:=Option (Value×an)
def iJ(H:an):Option Value->R
 | some v=>some (v,H)
 | none=>none
def un(ag:aj)(H:an):R:=match H.ci ag with
 | some (id,H)=>some (.pointer (some ⟨id,0,none⟩),H)
 | none=>none
def oi(ag:aj)(len c:Nat)(H:an):R:=match H.ci ag with
 | some (id,H)=>some (.slice (some ⟨id,0,none⟩) len c,H)
 | none=>none
structure Gn where f:List (Nat×Value)->an->R
def Ch(size len:Nat)(z:aj)(lB:List (Nat×Value))(H:an):R:=
 match rn (fun i=>some (i*size,size)) (fr len z) lB with
 | some ag=>oi ag len (2*size+1) H
 | none=>none
def gY(t:TypeId)(len:Nat):Gn:=
 match P.underlying t with
 | some (.slice e)=>match fQ P e with
  | some size=>match gy P e with
   | some z=>match ble (len*size) 16777216&&(blt 0 size&&beq (e6 (es z)) size)with
    | true=>⟨Ch size len (es z)⟩
    | false=>⟨fun _ _=>none⟩
   | none=>⟨fun _ _=>none⟩
  | none=>⟨fun _ _=>none⟩
 | _=>⟨fun _ _=>none⟩
structure vH where f:Value->an->R
def vI(x:Value)(H:an):R:=match x with
 | .string s=>oi (s.data.toList.map r9) (e6 s.data.toList) 2 H
 | _=>none
def jD(x:Value)(H:an):R:=match x with
 | .slice a len _=>match a with
  | none=>some (.string ⟨#[]⟩,H)
  | some ⟨id,off,cq⟩=>match cq with
   | some _=>none
   | none=>if beq len 0 then some (.string ⟨#[]⟩,H)else match o2 H id off len with
    | some l=>match rp l with
     | some l=>some (.string ⟨l.toArray⟩,H)
     | none=>none
    | none=>none
 | _=>none
def sa(x:Value)(H:an):R:=match x with
 | .slice a len _=>match a with
  | none=>none
  | some ⟨id,_,cq⟩=>match cq with
   | some _=>none
   | none=>match beq len 0 with
    | true=>none
    | false=>match H.get id with
     | some b=>match H.lY id b with
      | true=>some (x,H)
      | false=>none
     | none=>none
 | _=>none
def xk(e:TypeId):Bool:=match P.underlying e with
 | some (.int .u8)=>true
 | _=>false
def vJ(qp dst:TypeId):vH:=
 match P.underlying dst with
 | some (.int k)=>match P.underlying qp with
  | some (.int _)=>⟨fun x H=>match x with|.int _ n=>some (.int k (hk k n),H)|_=>none⟩
  | _=>⟨fun _ _=>none⟩
 | some .string=>match P.underlying qp with
  | some .string=>⟨fun x H=>match x with|.string s=>some (.string s,H)|_=>none⟩
  | some (.slice e)=>if xk P e then⟨jD⟩else⟨fun _ _=>none⟩
  | _=>⟨fun _ _=>none⟩
 | some (.slice e)=>match P.underlying qp with
  | some .string=>if xk P e then⟨vI⟩else⟨fun _ _=>none⟩
  | some (.slice _)=>if xk P e&&beq qp dst then⟨sa⟩else⟨fun _ _=>none⟩
  | _=>⟨fun _ _=>none⟩
 | _=>⟨fun _ _=>none⟩
def m5(H:an)(size n:Nat)(x:Value):Option aj:=
 match x with
 | .slice a _ _=>match a with
  | none=>some []
  | some ⟨id,off,cq⟩=>match cq with
   | some _=>none
   | none=>if beq n 0 then some []else o2 H id off (n*size)
 | .string s=>match beq size 1 with|true=>some ((m3 s.data.toList n).map r9)|false=>none
 | _=>none
def kr:Value->Option Nat
 | .slice _ n _=>some n
 | .string s=>some (e6 s.data.toList)
 | _=>none
def tc(n bytes:Nat):Bool:=ble ((2*n)*bytes) 281474976710656&&ble n 9223372036854775807
def uo(size:Nat)(id off len:Nat)(ci:aj)(n:Nat)(H:an):R:=
 match (if beq len 0 then some []else o2 H id off (len*size))with
 | some old=>oi (gx old ci) (len+n) (2*size) H
 | none=>none
def vK(size:Nat)(id off len:Nat)(ci:aj)(n:Nat)(H:an):R:=
 match H.get id with
 | some b=>match H.lY id b&&(ble (off+len*size) (e6 b.cells)&&hH cS ci)with|true=>oi (gx (nI (m3 b.cells (off+len*size)) off) ci) (len+n) (2*size) (H.set id none)|false=>none
 | none=>none
def pF(size bytes:Nat)(s:Value)(ci:aj)(n:Nat)(H:an):R:=
 match s with
 | .slice a len c=>match a with
  | none=>if beq n 0 then some (.slice none 0 0,H)else if tc n bytes then oi ci n (2*size) H else none
  | some ⟨id,off,cq⟩=>match cq with
   | some _=>none
   | none=>if beq n 0 then some (s,H)else
    if tc (len+n) bytes then
     if beq c (2*size+1)then uo size id off len ci n H
     else if beq c (2*size)then vK size id off len ci n H else none
    else none
 | _=>none
def dj(size bytes:Nat)(s x:Value)(H:an):R:=
 match kr x with
 | some n=>match m5 H size n x with
  | some ci=>pF size bytes s ci n H
  | none=>none
 | none=>none
def Mv(size:Nat)(x:Value)(H:an):R:=match x with
 | .slice a n c=>match a with
  | none=>match beq n 0&&beq c 0 with
   | true=>some (.int .i64 0,H)
   | false=>none
  | some _=>match beq c (2*size+1)with
   | true=>some (.int .i64 n,H)
   | false=>none
 | _=>none
def Ci(t:TypeId):vH:=
 match P.underlying t with
 | some (.slice e)=>match fQ P e with
  | some size=>⟨Mv size⟩
  | none=>⟨fun _ _=>none⟩
 | _=>⟨fun _ _=>none⟩
structure vL where f:aj->an->R
def kb(g:Value->Value->an->R):aj->an->R
 | [a,b],H=>g a b H
 | _,_=>none
def du(g:Value->an->R):aj->an->R
 | [a],H=>g a H
 | _,_=>none
def vM(t:TypeId):Bool:=match P.underlying t with
 | some (.slice _)=>true
 | some .string=>true
 | _=>false
def xl(argTypes:List TypeId):vL:=
 match argTypes with
 | [k3,k4]=>match P.underlying k3 with
  | some (.slice e)=>match P.info? e with
   | some i=>match gy P e with
    | some z=>match (blt 0 i.size&&beq (e6 (es z)) i.size)&&vM P k4 with
     | true=>⟨kb (dj i.size i.bytes)⟩
     | false=>⟨fun _ _=>none⟩
    | none=>⟨fun _ _=>none⟩
   | none=>⟨fun _ _=>none⟩
  | _=>⟨fun _ _=>none⟩
 | _=>⟨fun _ _=>none⟩
def Cj(size bytes:Nat)(z:aj)(s x:Value)(H:an):R:=
 match s with
 | .slice a len c=>match a with
  | some _=>none
  | none=>match x with
   | .int k n=>match k with
    | .i64=>match hq 0 n&&(beq len 0&&beq c 0)with
     | true=>match beq n.toNat 0 with
      | true=>some (.slice none 0 0,H)
      | false=>match tc n.toNat bytes with
       | true=>oi (fr n.toNat z) n.toNat (2*size) H
       | false=>none
     | false=>none
    | _=>none
   | _=>none
 | _=>none
def xm(k3:TypeId):vL:=
 match P.underlying k3 with
 | some (.slice e)=>match P.info? e with
  | some i=>match gy P e with
   | some z=>match blt 0 i.size&&beq (e6 (es z)) i.size with
    | true=>⟨kb (Cj i.size i.bytes (es z))⟩
    | false=>⟨fun _ _=>none⟩
   | none=>⟨fun _ _=>none⟩
  | none=>⟨fun _ _=>none⟩
 | _=>⟨fun _ _=>none⟩
def xn(t:TypeId):Bool:=match P.underlying t with
 | some (.int _)=>true
 | _=>false
def Ck(argTypes:List TypeId):vL:=
 match argTypes with
 | [k3,k4]=>match xn P k4 with
  | true=>xm P k3
  | false=>xl P argTypes
 | _=>⟨fun _ _=>none⟩
def nJ(size:Nat)(d x:Value)(H:an):R:=
 match d with
 | .slice base a _=>match kr x with
  | some am=>
   let n:=Nat.min am a
   if beq n 0 then some (.int .i64 0,H)else
   match base with
   | some ⟨id,off,cq⟩=>match cq with
    | some _=>none
    | none=>match m5 H size n x with
     | some ci=>match rm H id off ci with
      | some H=>some (.int .i64 n,H)
      | none=>none
     | none=>none
   | none=>none
  | none=>none
 | _=>none
def up(argTypes:List TypeId):vL:=
 match argTypes with
 | Cl::_=>match P.underlying Cl with
  | some (.slice e)=>match fQ P e with
   | some size=>if blt 0 size then⟨kb (nJ size)⟩else⟨fun _ _=>none⟩
   | none=>⟨fun _ _=>none⟩
  | _=>⟨fun _ _=>none⟩
 | _=>⟨fun _ _=>none⟩
def Cm:Int->aj->IntKind->Option Value
 | v,[],k=>some (.int k v)
 | v,x::r,k=>match x with
  | .int _ y=>Cm (cond (hq v y) v y) r k
  | _=>none
def Cn:Int->aj->IntKind->Option Value
 | v,[],k=>some (.int k v)
 | v,x::r,k=>match x with
  | .int _ y=>Cn (cond (hq y v) v y) r k
  | _=>none
def k5:aj->Option Value
 | v::r=>match v with|.int k x=>Cm x r k|_=>none
 | []=>none
def mO:aj->Option Value
 | v::r=>match v with|.int k x=>Cn x r k|_=>none
 | []=>none
def zJ(t:TypeId):vH:=
 match P.underlying t with
 | some .string=>⟨fun x H=>match x with|.string s=>some (.int .i64 (Int.ofNat (e6 s.data.toList)),H)|_=>none⟩
 | some (.array n _)=>⟨fun _ H=>some (.int .i64 n,H)⟩
 | some (.slice _)=>⟨fun x H=>match x with|.slice _ n _=>some (.int .i64 n,H)|_=>none⟩
 | _=>⟨fun _ _=>none⟩
def uq(z:aj)(x:Value)(H:an):R:=
 match x with
 | .slice a n _=>if beq n 0 then some (.tuple #[],H)else match a with
  | none=>some (.tuple #[],H)
  | some ⟨id,off,cq⟩=>match cq with
   | some _=>none
   | none=>match rm H id off (fr n z)with
    | some H=>some (.tuple #[],H)
    | none=>none
 | _=>none
def zK(t:TypeId):vH:=
 match P.underlying t with
 | some (.slice e)=>match gy P e with
  | some z=>⟨uq (es z)⟩
  | none=>⟨fun _ _=>none⟩
 | _=>⟨fun _ _=>none⟩
def qq(b:Builtin)(argTypes:List TypeId):vL:=
 match b with
 | .append=>Ck P argTypes
 | .copy=>up P argTypes
 | .len=>match argTypes with|t::_=>⟨du (zJ P t).f⟩|_=>⟨fun _ _=>none⟩
 | .cap=>match argTypes with|t::_=>⟨du (Ci P t).f⟩|_=>⟨fun _ _=>none⟩
 | .min=>⟨fun l H=>iJ H (k5 l)⟩
 | .max=>⟨fun l H=>iJ H (mO l)⟩
 | .clear=>match argTypes with|t::_=>⟨du (zK P t).f⟩|_=>⟨fun _ _=>none⟩
 | _=>⟨fun _ _=>none⟩
def lC(len:Nat):Option Value->Option Nat
 | none=>some len
 | some v=>match v with
  | .int _ n=>match hq 0 n with|true=>(match ble n.toNat len with|true=>some n.toNat|false=>none)|false=>none
  | _=>none
def mo(h:Nat):Option Value->Option Nat
 | none=>some 0
 | some v=>match v with
  | .int _ n=>match hq 0 n with|true=>(match ble n.toNat h with|true=>some n.toNat|false=>none)|false=>none
  | _=>none
structure Za where f:Value->Option Value->Option Value->Option Value->an->Option Value
def zL(x:Value)(d3 aB hE:Option Value):Option Value:=match x with
 | .string s=>match hE with
  | some _=>none
  | none=>match lC (e6 s.data.toList) aB with
   | some h=>match mo h d3 with
    | some l=>some (.string ⟨(m3 (nI s.data.toList l) (h-l)).toArray⟩)
    | none=>none
   | none=>none
 | _=>none
def nK(h:Nat)(aB hE:Option Value):Option Bool:=match hE with
 | none=>some false
 | some v=>match v with
  | .int _ m=>match aB with
   | some _=>match hq 0 m with
    | true=>(match beq m.toNat h with|true=>some true|false=>none)
    | false=>none
   | none=>none
  | _=>none
def nL(size:Nat)(a:Option Addr)(l h:Nat)(oj:Bool):Option Value:=match a with
 | none=>some (.slice none 0 0)
 | some ⟨id,off,cq⟩=>match cq with
  | some _=>none
  | none=>some (.slice (some ⟨id,off+l*size,none⟩) (h-l) (cond oj (2*size+1) (2*size)))
def hX(size:Nat)(x:Value)(d3 aB hE:Option Value):Option Value:=match x with
 | .slice a len c=>match lC len aB with
  | some h=>match mo h d3 with
   | some l=>match nK h aB hE with
    | some b=>match beq c (2*size+1)with
     | true=>nL size a l h (b||beq h len)
     | false=>match beq c (2*size)||beq c 0 with
      | true=>nL size a l h b
      | false=>none
    | none=>none
   | none=>none
  | none=>none
 | _=>none
def qr(n size:Nat)(x:Value)(d3 aB hE:Option Value)(H:an):Option Value:=match x with
 | .pointer a=>match a with
  | none=>none
  | some ⟨id,off,cq⟩=>match H.get id with
   | none=>none
   | some b=>match ble (off+n*size) (e6 b.cells)with
    | false=>none
    | true=>match lC n aB with
     | some h=>match mo h d3 with
      | some l=>match nK h aB hE with
       | some c=>nL size (some ⟨id,off,cq⟩) l h (c||beq h n)
       | none=>none
      | none=>none
     | none=>none
 | _=>none
def Co(t:TypeId):Za:=
 match P.underlying t with
 | some .string=>⟨fun x d3 aB a _=>zL x d3 aB a⟩
 | some (.slice e)=>match fQ P e with
  | some size=>match blt 0 size with
   | true=>⟨fun x d3 aB a _=>hX size x d3 aB a⟩
   | false=>⟨fun _ _ _ _ _=>none⟩
  | none=>⟨fun _ _ _ _ _=>none⟩
 | some (.array n e)=>match fQ P e with
  | some size=>match blt 0 size with
   | true=>⟨qr n size⟩
   | false=>⟨fun _ _ _ _ _=>none⟩
  | none=>⟨fun _ _ _ _ _=>none⟩
 | _=>⟨fun _ _ _ _ _=>none⟩
def o4(size bytes:Nat)(z:aj)(l c:Value)(H:an):R:=match l with
 | .int _ l=>match c with
  | .int _ c=>
   if 0<=l then(if l<=c then(if ble (c.toNat*bytes) 281474976710656&&ble c.toNat 9223372036854775807 then
    oi (fr l.toNat z) l.toNat (cond (mN l c) (2*size+1) (2*size)) H else none)else none)else none
  | _=>none
 | _=>none
structure Gp where f:Value->Value->an->R
def lD(t:TypeId):Gp:=
 match P.underlying t with
 | some (.slice e)=>match fQ P e,gy P e,(P.info? e).map (·.bytes)with
  | some size,some z,some bytes=>if blt 0 size&&beq (e6 (es z)) size then⟨o4 size bytes (es z)⟩else⟨fun _ _ _=>none⟩
  | _,_,_=>⟨fun _ _ _=>none⟩
 | _=>⟨fun _ _ _=>none⟩
def gh(o:Nat)(x:Value):Option Value:=match x with
 | .pointer a=>match a with
  | some ⟨id,off,cq⟩=>match cq with
   | none=>some (.pointer (some ⟨id,off+o,none⟩))
   | some _=>none
  | none=>none
 | _=>none
structure Cp where f:Value->Option Value
def ur(s:TypeId)(f:Nat):Cp:=
 match P.underlying s with
 | some (.struct a)=>match a.toList[f]? with
  | some cj=>match fQ P cj.type with
   | some 0=>⟨fun _=>none⟩
   | some _=>⟨gh cj.offset⟩
   | none=>⟨fun _=>none⟩
  | none=>⟨fun _=>none⟩
 | _=>⟨fun _=>none⟩
def dE(n size:Nat)(x i:Value):Option Value:=match i with
 | .int _ i=>match hq 0 i with|true=>(match blt i.toNat n with|true=>gh (i.toNat*size) x|false=>none)|false=>none
 | _=>none
def vN(size:Nat)(x i:Value):Option Value:=match x with
 | .slice a n _=>dE n size (.pointer a) i
 | _=>none
def Cq(t:TypeId):zI:=
 match P.underlying t with
 | some (.array n e)=>match fQ P e with
  | some size=>⟨dE n size⟩
  | none=>⟨fun _ _=>none⟩
 | some (.slice e)=>match fQ P e with
  | some size=>⟨vN size⟩
  | none=>⟨fun _ _=>none⟩
 | _=>⟨fun _ _=>none⟩
structure Zb where f:aj->Nat->Option Value
def xo(t:TypeId):Zb:=
 match m4 P t,fQ P t with
 | some true,some n=>⟨fun ag off=>some (.agg (m3 (nI ag off) n).toArray)⟩
 | some false,some _=>⟨fun ag off=>lW ag off⟩
 | _,_=>⟨fun _ _=>none⟩
def Cs(n size:Nat)(p:aj->Nat->Option Value)(x i:Value):Option Value:=match x with
 | .agg ag=>match i with
  | .int _ i=>match hq 0 i with|true=>(match blt i.toNat n with|true=>p ag.toList (i.toNat*size)|false=>none)|false=>none
  | _=>none
 | _=>none
def zM(x i:Value):Option Value:=match x with
 | .string s=>match i with
  | .int _ i=>match hq 0 i with|true=>(lW s.data.toList i.toNat).map r9|false=>none
  | _=>none
 | _=>none
def Ct(t:TypeId):zI:=
 match P.underlying t with
 | some (.array n e)=>match fQ P e with
  | some size=>⟨Cs n size (xo P e).f⟩
  | none=>⟨fun _ _=>none⟩
 | some .string=>⟨zM⟩
 | _=>⟨fun _ _=>none⟩
def Cu(t:TypeId)(f:Nat):Cp:=
 match P.underlying t with
 | some (.struct a)=>match a.toList[f]? with
  | some cj=>⟨fun x=>match x with|.agg ag=>(xo P cj.type).f ag.toList cj.offset|_=>none⟩
  | none=>⟨fun _=>none⟩
 | _=>⟨fun _=>none⟩
def kF(a:TypeId)(z:Option Value)(x:Value):Option Value:=
 match x with
 | .iface t v=>if beq t a then some (.tuple #[v,.bool true])else z.map fun z=>.tuple #[z,.bool false]
 | .nilIface=>z.map fun z=>.tuple #[z,.bool false]
 | _=>none
def us(a:TypeId)(x:Value):Option Value:=
 match x with
 | .iface t v=>if beq t a then some v else none
 | _=>none
def vO(a:TypeId)(ok:Bool):Cp:=
 match P.underlying a with
 | some (.interface _)=>⟨fun _=>none⟩
 | some _=>if ok then⟨kF a (gy P a)⟩else⟨us a⟩
 | none=>⟨fun _=>none⟩
structure Mw where g:aj->Value
def da:Operand->Mw
 | .tmp t=>⟨fun T=>bS T t⟩
 | .const v=>⟨fun _=>v⟩
 | .global g=>⟨fun _=>.pointer (some ⟨g,0,none⟩)⟩
 | .func f=>⟨fun _=>.func (.func f) #[] #[]⟩
def Cv:Operand->Mw
 | .tmp t=>⟨fun T=>bS T t⟩
 | _=>⟨fun _=>undef⟩
def iK(l:List Operand)(T:aj):aj:=match l with
 | []=>[]
 | o::r=>(da o).g T::iK r T
def qs(l:List (Nat×Operand))(T:aj):List (Nat×Value):=match l with
 | []=>[]
 |(i,o)::r=>(i,(da o).g T)::qs r T
def vP(o:Option Operand)(T:aj):Option Value:=match o with
 | none=>none
 | some o=>some ((da o).g T)
def jo(n:Nat)(a:Value)(H:an):R:=match a with
 | .pointer a=>match a with
  | some ⟨id,off,cq⟩=>match cq with
   | none=>match o2 H id off n with
    | some l=>some (.agg l.toArray,H)
    | none=>none
   | some _=>none
  | none=>none
 | _=>none
def vQ(H:an)(id off:Nat):Option Value:=match H.get id with
 | some b=>lW b.cells off
 | none=>none
def db(a:Value)(H:an):R:=match a with
 | .pointer a=>match a with
  | some ⟨id,off,cq⟩=>match cq with
   | none=>iJ H (vQ H id off)
   | some _=>none
  | none=>none
 | _=>none
def lE(t:TypeId):vH:=match m4 P t,fQ P t with
 | some true,some n=>⟨jo n⟩
 | some false,some _=>⟨db⟩
 | _,_=>⟨fun _ _=>none⟩
def d9(n:Nat)(a v:Value)(H:an):R:=match a with
 | .pointer a=>match a with
  | some ⟨id,off,cq⟩=>match cq with
   | none=>if beq (e6 (es v)) n then(match rm H id off (es v)with
    | some H=>some (undef,H)
    | none=>none)else none
   | some _=>none
  | none=>none
 | _=>none
def hI(x:Value):Option Value:=match x with
 | .pointer a=>match a with|some _=>some x|none=>none
 | .iface _ _=>some x
 | .func fn _ _=>match fn with|.func _=>some x|_=>none
 | _=>none
structure Mx where f:aj->an->R
def hJ(op:Op):Mx:=
 match op with
 | .move x=>⟨fun T H=>some ((da x).g T,H)⟩
 | .assign x=>⟨fun T H=>some ((da x).g T,H)⟩
 | .pick c a b=>⟨fun T H=>match (da c).g T with|.bool t=>(match t with|true=>some ((da a).g T,H)|false=>some ((da b).g T,H))|_=>none⟩
 | .alloc t=>match gy P t with
  | some z=>⟨fun _ H=>un (es z) H⟩
  | none=>⟨fun _ _=>none⟩
 | .box _ x=>⟨fun T H=>un (es ((da x).g T)) H⟩
 | .build t e=>⟨fun T H=>iJ H ((eg P t).f (qs e.toList T))⟩
 | .buildSlice t len e=>⟨fun T H=>(gY P t len).f (qs e.toList T) H⟩
 | .load t a=>⟨fun T H=>(lE P t).f ((da a).g T) H⟩
 | .store t a x=>match fQ P t with
  | some n=>⟨fun T H=>d9 n ((da a).g T) ((da x).g T) H⟩
  | none=>⟨fun _ _=>none⟩
 | .nilCheck x=>⟨fun T H=>iJ H (hI ((da x).g T))⟩
 | .binOp op t x y _=>⟨fun T H=>iJ H ((cz P op t (ro x||ro y)).f ((da x).g T) ((da y).g T))⟩
 | .unOp op _ x=>⟨fun T H=>iJ H (kq op ((da x).g T))⟩
 | .convert s d x=>⟨fun T H=>(vJ P s d).f ((da x).g T) H⟩
 | .makeInterface t x=>match P.underlying t with
  | some (.interface _)=>⟨fun _ _=>none⟩
  | some _=>⟨fun T H=>some (.iface t ((da x).g T),H)⟩
  | none=>⟨fun _ _=>none⟩
 | .makeFunc fn first cap=>match fn with
  | .func f=>⟨fun T H=>some (.func (.func f) (iK first.toList T).toArray (iK cap.toList T).toArray,H)⟩
  | _=>⟨fun _ _=>none⟩
 | .makeSlice t l c=>⟨fun T H=>(lD P t).f ((da l).g T) ((da c).g T) H⟩
 | .slice t x d3 aB h=>⟨fun T H=>iJ H ((Co P t).f ((da x).g T) (vP d3 T) (vP aB T) (vP h T) H)⟩
 | .fieldAddr s x f=>⟨fun T H=>iJ H ((ur P s f).f ((da x).g T))⟩
 | .field t x f=>⟨fun T H=>iJ H ((Cu P t f).f ((da x).g T))⟩
 | .indexAddr t x i=>⟨fun T H=>iJ H ((Cq P t).f ((da x).g T) ((da i).g T))⟩
 | .index t x i=>⟨fun T H=>iJ H ((Ct P t).f ((da x).g T) ((da i).g T))⟩
 | .typeAssert x _ a ok=>⟨fun T H=>iJ H ((vO P a ok).f ((da x).g T))⟩
 | .extract x i=>⟨fun T H=>match (da x).g T with|.tuple vs=>iJ H (lW vs.toList i)|_=>none⟩
 | .call c=>match c.callee with
  | .builtin b=>⟨fun T H=>(qq P b c.argTypes.toList).f (iK c.args.toList T) H⟩
  | _=>⟨fun _ _=>none⟩
 | _=>⟨fun _ _=>none⟩
def o5(H:an):an:=⟨H.t.set H.next none,succ H.next,H.cX,(H.next,ij [])::H.c5⟩
def vR(t:TypeId):Option (Bool×TypeId):=match P.underlying t with
 | some (.map k e)=>match P.underlying k with
  | some .string=>some (true,e)
  | some (.int _)=>some (false,e)
  | _=>none
 | _=>none
def xp(a6:Bool)(a b:Value):Option Bool:=match a6 with
 | true=>match a with
  | .string s=>match b with|.string t=>some (s==t)|_=>none
  | _=>none
 | false=>match a with
  | .int k m=>match b with|.int eF n=>(match qn k eF with|true=>some (mN m n)|false=>none)|_=>none
  | _=>none
def sb(a6:Bool)(key:Value):aj->Option (Option Value)
 | []=>some none
 | [_]=>none
 | k::v::r=>match xp a6 key k with
  | some true=>some (some v)
  | some false=>sb a6 key r
  | none=>none
def xq(m:Value)(H:an):Option aj:=match m with
 | .map r=>match r with
  | none=>some []
  | some id=>match dV H.c5 id with
   | some r=>match k2 r with|true=>some r.T|false=>none
   | none=>none
 | _=>none
def xr(ok:Bool)(v:Value)(b:Bool):Value:=match ok with
 | true=>.tuple #[v,.bool b]
 | false=>v
def sc(t:TypeId)(ok:Bool)(m key:Value)(H:an):R:=match vR P t with
 | some (a6,e)=>match gy P e with
  | some z=>match xq m H with
   | some T=>match sb a6 key T with
    | some (some v)=>some (xr ok v true,H)
    | some none=>some (xr ok z false,H)
    | none=>none
   | none=>none
  | none=>none
 | none=>none
def qt(t:TypeId)(m key v:Value)(H:an):R:=match vR P t with
 | some (a6,_)=>match m with
  | .map r=>match r with
   | some id=>match ble H.cX id with
    | true=>match xq m H with
     | some T=>match sb a6 key T with
      | some none=>some (undef,⟨H.t,H.next,H.cX,jW H.c5 id (ij (gx T [key,v]))⟩)
      | _=>none
     | none=>none
    | false=>none
   | none=>none
  | _=>none
 | none=>none
inductive vS where
 | loop (c6:Bool) (c:Code) (T:aj) (H:an)
 | call (f:FuncId) (args:aj) (H:an)
 | round (l:Nat) (args:aj) (H:an)
structure eG where
 cG:lX
 T:aj
 H:an
abbrev hY:=vS->Option eG
inductive ut where
 | fn (f:FuncId) (args:aj)
 | ol (l:Nat) (args:aj)
def qu(f:Value)(args:aj):Option ut:=match f with
 | .func fn first cap=>match fn with
  | .func g=>some (.fn g (gx first.toList (gx args cap.toList)))
  | .yield l=>match beq (e6 first.toList) 0&&beq (e6 cap.toList) 0 with
   | true=>some (.ol l args)
   | false=>none
  | _=>none
 | _=>none
def Gq(t:TypeId)(name:String):Option (FuncId×Bool):=
 match P.info? t with
 | some i=>match i.methods.toList.find? (fun m=>m.name==name)with
  | some m=>match m.path.toList with
   | []=>m.func
   | _=>none
  | none=>none
 | none=>none
def Gr(t:TypeId):Option Bool:=match P.underlying t with
 | some (.pointer _)=>some true
 | some _=>some false
 | none=>none
def Gs(name:String)(r:Value)(args:aj):Option ut:=match r with
 | .iface t v=>match Gq P t name with
  | some (f,ad)=>match Gr P t with
   | some b=>if b==ad then some (.fn f (v::args))else none
   | none=>none
  | none=>none
 | _=>none
def Cw(H:an):ut->vS
 | .fn f args=>.call f args H
 | .ol l args=>.round l args H
def qv(self:hY)(x:Option ut)(H:an):R:=
 match x with
 | some t=>match self (Cw H t)with
  | some ⟨_,T,H⟩=>match T with
   | [v]=>some (v,H)
   | _=>none
  | none=>none
 | none=>none
structure My where f:hY->aj->an->R
def rq:Operand->Bool
 | .tmp _=>true
 | .const v=>xh v
 | .global g=>blt g P.globals.size
 | .func _=>true
def td(op:Op):My:=
 match op with
 | .call c=>match c.callee with
  | .builtin _=>⟨fun _ T H=>(hJ P op).f T H⟩
  | .value f=>⟨fun self T H=>qv self (qu ((da f).g T) (iK c.args.toList T)) H⟩
  | .invoke r name=>⟨fun self T H=>qv self (Gs P name ((da r).g T) (iK c.args.toList T)) H⟩
 | .makeMap _ r=>match r with
  | none=>⟨fun _ _ H=>some (.map (some H.next),o5 H)⟩
  | some _=>⟨fun _ _ _=>none⟩
 | .lookup t x i ok=>⟨fun _ T H=>sc P t ok ((da x).g T) ((da i).g T) H⟩
 | .mapUpdate t m k x=>⟨fun _ T H=>qt P t ((da m).g T) ((da k).g T) ((da x).g T) H⟩
 | .insert t m k x=>⟨fun _ T H=>qt P t ((da m).g T) ((da k).g T) ((da x).g T) H⟩
 | op=>⟨fun _ T H=>(hJ P op).f T H⟩
def gZ(op:Op):My:=match hH (rq P) op.operands.toList with
 | true=>td P op
 | false=>⟨fun _ _ _=>none⟩
def gz(T:aj)(d:Option Tmp)(v:Value):aj:=match d with
 | some d=>fZ T d v
 | none=>T
structure Zc where f:aj->Bool
def gF(all:List Oper)(g:Option (Nat×Bool)):Zc:=
 match g with
 | none=>⟨fun _=>true⟩
 | some (j,bF)=>match (all[j]?).bind (·.dst)with
  | some d=>⟨fun T=>match bS T d with|.bool b=>b==bF|_=>false⟩
  | none=>⟨fun _=>false⟩
def gL(op:Op):Nat:=
 match op with
 | .load _ _=>1
 | .slice t _ _ _ _=>match P.underlying t with|some (.array _ _)=>1|_=>0
 | .convert s d _=>match P.underlying d with
  | some (.slice _)=>match P.underlying s with|some (.slice _)=>1|_=>2
  | some .string=>match P.underlying s with|some (.slice _)=>1|_=>0
  | _=>0
 | .alloc _=>2
 | .box _ _=>2
 | .buildSlice _ _ _=>2
 | .makeSlice _ _ _=>2
 | .store _ _ _=>4
 | .makeMap _ _=>3
 | .lookup _ _ _ _=>3
 | .mapUpdate _ _ _ _=>3
 | .insert _ _ _ _=>3
 | .call c=>match c.callee with
  | .builtin b=>match b with
   | .append=>4
   | .copy=>4
   | .clear=>4
   | _=>0
  | _=>3
 | _=>0
def Gt(ms:List Nat)(o:Oper):Nat:=
 o.after.toList.foldl (fun s e=>match Region.binds .any e with
  | true=>lor s (lor (shiftLeft 1 e.on) (match lW ms e.on with|some m=>m|none=>0))
  | false=>s) 0
def zN(ms:List Nat):List Oper->List Nat
 | []=>ms
 | o::r=>zN (gx ms [Gt ms o]) r
def Mz(l:List Oper):List Nat:=zN [] l
def fA(m i:Nat):Bool:=beq (land (shiftRight m i) 1) 1
def looks(all:List Oper)(o:Oper):List Nat:=
 gx (o.op.operands.toList.filterMap fun x=>match x with|.tmp t=>some t|_=>none)
  (match o.guard with
   | some (g,_)=>match (lW all g).bind (·.dst)with|some d=>[d]|none=>[]
   | none=>[])
def om(i:Nat)(l:List Nat):Bool:=not (hH (fun j=>not (beq i j)) l)
def Cy(o:Oper)(l:List Nat):Bool:=match o.dst with
 | some d=>om d l
 | none=>false
def xs(x y:Oper):Bool:=match x.dst with
 | some d=>match y.dst with|some e=>beq d e|none=>false
 | none=>false
def oo(all:List Oper)(x y:Oper):Bool:=not (Cy x (looks all y))&&(not (Cy y (looks all x))&&not (xs x y))
structure mp where
 cI:Nat
 jX:Nat
 dW:Nat
 /-- a call of a function MA touches jp memory, where others would stand in its way: zO is run on o6 empty heap -/
 jY:Bool
def sd(i:Nat):List Oper->List Nat->List (Oper×Nat×Nat)
 | o::r,m::ms=>(o,i,m)::sd (succ i) r ms
 | _,_=>[]
def jE(l:List Oper):List (Oper×Nat×Nat):=sd 0 l (Mz l)
def Zd(op:Op):Bool:=match op with
 | .box _ _=>true
 | _=>false
def Ze(op:Op):Bool:=match op with
 | .call c=>(match c.callee with|.builtin _=>false|_=>true)
 | _=>false
def zP(l:List (Oper×Nat×Nat)):Nat:=l.foldl (fun s x=>match not (beq (land s x.2.2) 0)||(Zd x.1.op&&not (hH (fun(y:Oper×Nat×Nat)=>match blt x.2.1 y.2.1 with|true=>not (Ze y.1.op)||fA y.2.2 x.2.1|false=>true) l))with
 | true=>lor s (shiftLeft 1 x.2.1)
 | false=>s) 0
def Gu(m:Nat)(l:List (Oper×Nat×Nat)):List (Oper×Nat×Nat):=match hH (fun(x:Oper×Nat×Nat)=>fA m x.2.1||beq (land m x.2.2) 0) l with
 | true=>l.filter (fun x=>not (fA m x.2.1))++l.filter (fun x=>fA m x.2.1)
 | false=>l
def vT(l:List (Oper×Nat×Nat)):List (Oper×Nat×Nat):=Gu (zP l) l
def Cz(l:List Oper):List Oper:=(vT (jE l)).map (·.1)
def zQ(o:Oper)(i:Nat):Bool:=hH (fun(e:Edge)=>match Region.binds .any e with
 | true=>blt e.on i
 | false=>true) o.after.toList
def Gv(all:List Oper):Bool:=
 hH (fun(y:Oper×Nat×Nat)=>zQ y.1 y.2.1) (jE all)&&hH (fun(y:Oper×Nat×Nat)=>hH (fun(x:Oper×Nat×Nat)=>match blt x.2.1 y.2.1 with
  | true=>fA y.2.2 x.2.1||oo all x.1 y.1
  | false=>true) (jE all)) (jE all)
def MB(a:FuncId->Bool)(op:Op):Bool:=match gL P op with
 | 0=>true
 | 3=>match op with
  | .call c=>match c.callee with
   | .value g=>match g with
    | .func f=>a f
    | _=>false
   | _=>false
  | _=>false
 | _=>false
def Zf(d:FuncId->Bool)(c:Code):Bool:=
 Code.rec (motive:=fun _=>Bool) true (fun _ bm _=>hH (fun(o:Oper)=>MB P d o.op) bm.toList) (fun _ _ a b=>a&&b) (fun _ _ _ a b=>a&&b) (fun _ _ a=>a) (fun _ _=>false) (fun _ _ _ _ _ _=>false) (fun _=>true) (fun _ _=>false) (fun _=>true) (fun _=>false) true (fun _=>false) c
def Zg(n:Nat):FuncId->Bool:=
 Nat.rec (motive:=fun _=>FuncId->Bool) (fun _=>false) (fun _ a f=>match lW P.funcs.toList f with
  | some fn=>match fn.body with
   | some c=>Zf P a c
   | none=>false
  | none=>false) n
def Zh(l:List (Oper×Nat×Nat))(i m:Nat):Bool:=not (hH (fun(x:Oper×Nat×Nat)=>match x.1.guard with
 | some _=>true
 | none=>match blt x.2.1 i with
  | true=>fA m x.2.1||not (ble 2 (gL P x.1.op))
  | false=>match blt i x.2.1 with
   | true=>fA x.2.2 i||not (ble 3 (gL P x.1.op))
   | false=>true) l)
def MC(l:List (Oper×Nat×Nat))(x:Oper×Nat×Nat):Bool:=match x.1.guard with
 | some _=>false
 | none=>match gL P x.1.op with
  | 3=>MB P (Zg P 3) x.1.op&&Zh P l x.2.1 x.2.2
  | _=>false
def se(l:List (Oper×Nat×Nat))(x:Oper×Nat×Nat):mp:=match MC P l x with
 | true=>⟨x.2.1,x.2.2,0,true⟩
 | false=>⟨x.2.1,x.2.2,gL P x.1.op,false⟩
def oq(l:List Oper):List (Oper×mp):=(vT (jE l)).map fun x=>(x.1,se P (jE l) x)
def xt(a b:Option Addr):Bool:=match a with
 | none=>match b with|none=>true|some _=>false
 | some ⟨i,o,s⟩=>match b with
  | none=>false
  | some ⟨c,l1,bJ⟩=>match s with
   | some _=>false
   | none=>match bJ with
    | some _=>false
    | none=>beq i c&&beq o l1
def MD(a b:Fn):Bool:=match a with
 | .func f=>match b with|.func g=>beq f g|_=>false
 | _=>false
def Gw(a b:Bool):Bool:=match a with|true=>b|false=>not b
def Gx(a b:UInt8):Bool:=beq a.toNat b.toNat
def vU(sub:Value->Value->Bool)(x y:Value):Bool:=match x with
 | .bool a=>match y with|.bool b=>Gw a b|_=>false
 | .int k a=>match y with|.int eF b=>qn k eF&&mN a b|_=>false
 | .string a=>match y with|.string b=>qm Gx a.data.toList b.data.toList|_=>false
 | .pointer a=>match y with|.pointer b=>xt a b|_=>false
 | .slice a n c=>match y with|.slice d k6 bC=>xt a d&&(beq n k6&&beq c bC)|_=>false
 | .map a=>match y with|.map b=>(match a with|none=>(match b with|none=>true|some _=>false)|some i=>(match b with|none=>false|some j=>beq i j))|_=>false
 | .nilFunc=>match y with|.nilFunc=>true|_=>false
 | .nilIface=>match y with|.nilIface=>true|_=>false
 | .iface t v=>match y with|.iface ME ap=>beq t ME&&sub v ap|_=>false
 | .func f a b=>match y with|.func Gy d cA=>MD f Gy&&(qm sub a.toList d.toList&&qm sub b.toList cA.toList)|_=>false
 | .agg a=>match y with|.agg b=>qm sub a.toList b.toList|_=>false
 | _=>false
def Gz:Value->Value->Bool:=vU (vU (vU fun _ _=>false))
def ik(H E:an)(id:Nat):Bool:=match H.get id with
 | some b=>match E.get id with
  | some cA=>Gw b.wr cA.wr&&qm Gz b.cells cA.cells
  | none=>false
 | none=>false
structure kG where
 cI:Nat
 dW:Nat
 jF:List Nat
 d3:Nat
 aB:Nat
 ot:Nat->Bool
def vV:Value->Option Nat
 | .pointer a=>match a with|some a=>some a.block|none=>none
 | .slice a _ _=>match a with|some a=>some a.block|none=>none
 | _=>none
def dM(l:aj):List Nat:=l.filterMap vV
def pG(o:Oper)(p:mp)(T:aj)(H E:an):kG:=⟨p.cI,p.dW,match p.dW with|1=>dM (iK o.op.operands.toList T)|4=>dM (iK o.op.operands.toList T)|_=>[],H.next,E.next,match p.dW with|3=>ik H E|_=>fun _=>false⟩
def uu(l:List Nat)(d3 aB:Nat):Bool:=hH (fun i=>blt i d3||ble aB i) l
def lj(l m:List Nat):Bool:=hH (fun i=>not (om i m)) l
def qw(k j:kG):Bool:=
 match k.dW with
 | 0=>true
 | 1=>match j.dW with
  | 3=>hH j.ot k.jF
  | 4=>lj k.jF j.jF
  | _=>true
 | 2=>match j.dW with
  | 0=>true
  | 1=>uu j.jF k.d3 k.aB
  | 2=>true
  | 4=>uu j.jF k.d3 k.aB
  | _=>false
 | 3=>match j.dW with
  | 0=>true
  | 1=>hH k.ot j.jF
  | 2=>true
  | _=>false
 | 4=>match j.dW with
  | 0=>true
  | 1=>lj k.jF j.jF&&uu j.jF k.d3 k.aB
  | 2=>true
  | _=>false
 | _=>false
def zR(p:mp)(j:kG)(fm:List kG):Bool:=match j.dW with
 | 0=>true
 | _=>hH (fun k=>fA p.jX k.cI||qw k j) fm
def jY(H:an):an:=⟨.nil,H.next,H.cX,[]⟩
def CA(H:an)(r:R):R:=match r with
 | some (v,a)=>match beq a.next H.next with
  | true=>some (v,H)
  | false=>none
 | none=>none
def qx(self:hY)(o:Oper)(p:mp)(T:aj)(H:an):R:=match p.jY with
 | true=>CA H ((gZ P o.op).f self T (jY H))
 | false=>(gZ P o.op).f self T H
def fB(self:hY)(o:Oper)(w:Bool)(T:aj)(H:an)(k:aj->an->Option eG):Option eG:=
 match w with
 | true=>match (gZ P o.op).f self T H with
  | some (v,H)=>k (gz T o.dst v) H
  | none=>none
 | false=>k (gz T o.dst undef) H
def hZ(self:hY)(all l:List Oper):aj->an->Option eG:=
 List.rec (motive:=fun _=>aj->an->Option eG) (fun T H=>some ⟨.normal,T,H⟩)
  (fun o _ a T H=>fB P self o ((gF all o.guard).f T) T H a) l
def ou(self:hY)(o:Oper)(p:mp)(w:Bool)(T:aj)(H:an)(fm:List kG)(k:aj->an->List kG->Option eG):Option eG:=
 match w with
 | true=>match qx P self o p T H with
  | some (v,E)=>match zR p (pG o p T H E) fm with
   | true=>k (gz T o.dst v) E (pG o p T H E::fm)
   | false=>none
  | none=>none
 | false=>k (gz T o.dst undef) H fm
def m6(self:hY)(all:List Oper)(l:List (Oper×mp)):aj->an->List kG->Option eG:=
 List.rec (motive:=fun _=>aj->an->List kG->Option eG) (fun T H _=>some ⟨.normal,T,H⟩)
  (fun o _ a T H fm=>ou P self o.1 o.2 ((gF all o.1.guard).f T) T H fm a) l
def l2(self:hY)(all:List Oper)(T:aj)(H:an):Option eG:=
 match Gv all with
 | true=>m6 P self all (oq P all) T H []
 | false=>none
def xu(T:aj)(H:an):ResultVar->Option Value
 | .tmp t=>some (bS T t)
 | .cell a t=>match (lE P t).f (bS T a) H with
  | some (v,_)=>some v
  | none=>none
def uv(T:aj)(H:an):List ResultVar->Option aj 
 | []=>some []
 | r::fm=>match xu P T H r with
  | some v=>match uv T H fm with
   | some vs=>some (v::vs)
   | none=>none
  | none=>none
def uw(fm:List ResultVar)(T:aj)(H:an):Option Value:=
 match fm with
 | [r]=>xu P T H r
 | fm=>match uv P T H fm with
  | some vs=>some (.tuple vs.toArray)
  | none=>none
structure zS where f:hY->aj->an->Option eG
def mq(self:hY)(v:Value)(a b:zS)(T:aj)(H:an):Option eG:=match v with
 | .bool t=>match t with
  | true=>a.f self T H
  | false=>b.f self T H
 | _=>none
def vW(id:Nat)(o:Option eG):Option eG:=match o with
 | some ⟨e,T,H⟩=>match e with
  | .exit a=>if beq a id then some ⟨.normal,T,H⟩else some ⟨.exit a,T,H⟩
  | e=>some ⟨e,T,H⟩
 | none=>none
def qy(o:Option eG)(k:aj->an->Option eG):Option eG:=match o with
 | some ⟨e,T,H⟩=>match e with
  | .normal=>k T H
  | e=>some ⟨e,T,H⟩
 | none=>none
def zT(o:Option eG)(k:aj->an->Option eG):Option eG:=match o with
 | some ⟨e,T,H⟩=>match e with
  | .normal=>k T H
  | _=>none
 | none=>none
def ux(T:aj)(bv:List Tmp)(args:aj):aj:=match bv,args with
 | [],_=>T
 | _,[]=>T
 | p::bv,v::vs=>ux (fZ T p v) bv vs
def GA(T:aj)(l:Nat)(H:an):Option eG:=match H.c5 with
 | []=>none
 | x::di=>match beq x.1 l&&ble H.cX l with
  | true=>match dV di l with
   | some _=>none
   | none=>match k2 x.2 with
   | true=>none
   | false=>match x.2.st with
    | .busy=>none
    | .ready=>some ⟨.normal,T,⟨H.t,H.next,H.cX,di⟩⟩
    | .over e=>some ⟨e,T,⟨H.t,H.next,H.cX,di⟩⟩
  | false=>none
def laid(T:aj)(bv:List Tmp)(cD body:Code)(H:an):an:=
 ⟨(H.t.set H.next none).set (succ H.next) none,succ (succ H.next),H.cX,(succ H.next,⟨T,bv,cD,body,.ready⟩)::H.c5⟩
def te(l:Nat):Value:=.func (.yield l) #[] #[]
def sf(self:hY)(g:Value)(bv:List Tmp)(cD body:Code)(T:aj)(H:an):Option eG:=
 match qu g [te (succ H.next)]with
 | some t=>match t with
  | .fn f args=>match self (.call f args (laid T bv cD body H))with
   | some ⟨_,a,b⟩=>match a with
    | [_]=>GA T (succ H.next) b
    | _=>none
   | none=>none
  | .ol _ _=>none
 | none=>none
def rr(l:Nat)(st:vF)(H:an):Option an:=match ble H.cX l with
 | true=>match dV H.c5 l with
  | some r=>match k2 r||k2 ⟨r.T,r.bv,r.cD,r.body,st⟩with
   | true=>none
   | false=>some ⟨H.t,H.next,H.cX,jW H.c5 l ⟨r.T,r.bv,r.cD,r.body,st⟩⟩
  | none=>none
 | false=>none
def Zi:vF->Bool
 | .ready=>true
 | _=>false
def vX(l:Nat)(H:an):Option an:=match dV H.c5 l with
 | some r=>match Zi r.st with
  | true=>rr l .busy H
  | false=>none
 | none=>none
def xw:lX->vF
 | .normal=>.ready
 | e=>.over e
def uy:lX->Bool
 | .normal=>true
 | _=>false
def zU(l:Nat)(o:Option eG):Option eG:=match o with
 | some ⟨e,_,H⟩=>match rr l (xw e) H with
  | some a=>some ⟨.ret,[.bool (uy e)],a⟩
  | none=>none
 | none=>none
def dB(c6:Bool)(c:Code):zS:=
 Code.rec (motive:=fun _=>zS)
  ⟨fun _ T H=>some ⟨.normal,T,H⟩⟩
  (fun _ bm d=>match d with
   | true=>⟨fun self T H=>l2 P self bm.toList T H⟩
   | false=>⟨fun self T H=>hZ P self bm.toList bm.toList T H⟩)
  (fun _ _ x y=>⟨fun self T H=>qy (x.f self T H) fun T H=>y.f self T H⟩)
  (fun c _ _ x y=>⟨fun self T H=>mq self ((da c).g T) x y T H⟩)
  (fun id _ x=>⟨fun self T H=>vW id (x.f self T H)⟩)
  (fun b _=>⟨fun self T H=>self (.loop c6 b T H)⟩)
  (fun g bv cD b _ _=>match c6 with
   | true=>⟨fun self T H=>sf self ((Cv g).g T) bv.toList cD b T H⟩
   | false=>⟨fun _ _ _=>none⟩)
  (fun id=>⟨fun _ T H=>some ⟨.exit id,T,H⟩⟩)
  (fun _ _=>⟨fun _ _ _=>none⟩)
  (fun _=>⟨fun _ T H=>some ⟨.normal,T,H⟩⟩)
  (fun _=>⟨fun _ _ _=>none⟩)
  ⟨fun _ T H=>some ⟨.ret,T,H⟩⟩
  (fun _=>⟨fun _ _ _=>none⟩) c
def tf(self:hY)(l:Nat)(args:aj)(H:an):Option eG:=match dV H.c5 l with
 | some r=>match beq (e6 args) (e6 r.bv)&&not (k2 r)with
  | true=>zT ((dB P false r.cD).f self (ux r.T r.bv args) H) fun a b=>match vX l b with
   | some c=>zU l ((dB P false r.body).f self a c)
   | none=>none
  | false=>none
 | none=>none
structure Zj where f:hY->aj->an->Option eG
def uz(fm:List ResultVar)(o:Option eG):Option eG:=match o with
 | some ⟨e,T,H⟩=>match e with
  | .exit _=>none
  | _=>match uw P fm T H with
   | some v=>some ⟨.ret,[v],H⟩
   | none=>none
 | none=>none
def rs(f:FuncId):Zj:=
 match P.funcs.toList[f]? with
 | some fn=>match fn.body with
  | some c=>⟨fun self args H=>uz P fn.results.toList ((dB P true c).f self (gx args (fr (fn.ntmps-e6 args) [undef])) H)⟩
  | none=>⟨fun _ _ _=>none⟩
 | none=>⟨fun _ _ _=>none⟩
def step(self:hY):vS->Option eG
 | .loop c6 c T H=>qy ((dB P c6 c).f self T H) fun T H=>self (.loop c6 c T H)
 | .call f args H=>(rs P f).f self args H
 | .round l args H=>tf P self l args H
end
end
end Go.Ab
namespace Go.Ab
open Go
variable{α}
theorem kH(l:List α)(n:Nat):m3 l n=l.take n:=by
 induction l generalizing n with
 | nil=>simp[m3]
 | cons x r a=>cases n with
  | zero=>rfl
  | succ n=>simp_all[m3]
theorem lk(l:List α)(n:Nat):nI l n=l.drop n:=by
 induction l generalizing n with
 | nil=>simp[nI]
 | cons x r a=>cases n with
  | zero=>rfl
  | succ n=>simp_all[nI]
theorem gM(l m:List α):gx l m=l++m:=by
 induction l with
 | nil=>rfl
 | cons x r a=>simp_all[gx]
theorem f0(l:List α):e6 l=l.length:=by
 have b:∀(l:List α) (n:Nat),(List.rec (fun n=>n) (fun _ _ a n=>a (succ n)) l n:Nat)=n+l.length:=by
  intro l;induction l with
  | nil=>grind
  | cons x r a=>grind
 simp_all[e6]
theorem ru(l:List α)(n:Nat):lW l n=l[n]?:=by
 induction l generalizing n with
 | nil=>rfl
 | cons x r a=>cases n with
  | zero=>rfl
  | succ n=>simp_all[lW]
theorem ia(p:α->Bool)(l:List α):hH p l=l.all p:=by
 induction l with
 | nil=>rfl
 | cons x r a=>show cond (p x) (hH p r) false=_;simp_all
theorem mr(l:aj)(n:Nat):bS l n=l.getD n undef:=by
 induction l generalizing n with
 | nil=>rfl
 | cons x r a=>cases n with
  | zero=>rfl
  | succ n=>simp_all[bS]
theorem mu(l:aj)(n:Nat)(v:Value):fZ l n v=l.set n v:=by
 induction l generalizing n with
 | nil=>rfl
 | cons x r a=>cases n with
  | zero=>rfl
  | succ n=>simp_all[fZ]
theorem kI(m n:Nat):ble m n=decide (m<=n):=by
 cases h:ble m n
 grind[ble_eq_true_of_le]
 simp_all
theorem i0(a b:Int):hq a b=decide (a<=b):=by
 cases a with
 | ofNat m=>cases b with
  | ofNat n=>show ble m n=_;rw[kI];simp
  | negSucc n=>show false=_;grind
 | negSucc m=>cases b with
  | ofNat n=>rfl
  | negSucc n=>show ble n m=_;grind[kI]
theorem ow(a b:Int):mN a b=decide (a=b):=by
 cases a<;>cases b;rename_i m n;show beq m n=_;cases h:beq m n;symm;rw[decide_eq_false_iff_not];intro aH;injection aH with aH;simp_all
 simp_all
 rfl;rfl;rename_i m n;show beq n m=_;cases h:beq n m;symm;rw[decide_eq_false_iff_not];intro aH;simp_all
 simp_all
theorem GB(x:Value)(o:Option aj):vE x o=o.map (x::·):=by cases o<;>rfl
theorem Zk(n:Nat)(l:aj):Gh n l=l.drop n:=by
 induction n generalizing l with
 | zero=>rfl
 | succ n a=>cases l with
  | nil=>rfl
  | cons x r=>simp_all[Gh]
theorem Zl(n:Nat)(l:aj):Gi n l=if(l.take n).length=n then some (l.take n)else none:=by
 induction n generalizing l with
 | zero=>rfl
 | succ n a=>cases l with
  | nil=>rfl
  | cons x r=>
   show vE x (Gi n r)=_
   simp_all[GB]
theorem Zm(l:aj)(o n:Nat):Gj l o n=if((l.drop o).take n).length=n then some ((l.drop o).take n)else none:=by grind[Gj,Zl,Zk]
theorem Zn(vs l:aj):zG vs l=if vs.length<=l.length then some (vs++l.drop vs.length)else none:=by
 induction vs generalizing l with
 | nil=>rfl
 | cons v vs a=>cases l with
  | nil=>rfl
  | cons x r=>
   show vE v (zG vs r)=_
   simp_all[GB]
theorem Zo(l:aj)(o:Nat)(vs:aj):Gk l o vs=if o+vs.length<=l.length then some (l.take o++(vs++l.drop (o+vs.length)))else none:=by
 unfold Gk;induction o generalizing l with
 | zero=>
  show zG vs l=_
  grind[Zn]
 | succ o a=>cases l with
  | nil=>rw[if_neg aW];rfl
  | cons x r=>
   show vE x (Mt (zG vs) o r)=_;rw[a,GB]
   grind
theorem vY(H:an)(id off n:Nat):o2 H id off n=match H.get id with
  | some b=>ta (m3 (nI b.cells off) n) n
  | none=>none:=by
 unfold o2;cases H.get id with
 | none=>rfl
 | some b=>
  simp only[Zm,ta,kH,lk,f0];by_cases h:((b.cells.drop off).take n).length=n
  simp_all
  grind[eq_of_beq_eq_true]
theorem CB(H:an)(id off:Nat)(vs:aj):rm H id off vs=match H.get id with
  | some b=>
   match H.lY id b&&(ble (off+e6 vs) (e6 b.cells)&&hH cS vs)with
   | true=>some (H.set id (some ⟨gx (m3 b.cells off) (gx vs (nI b.cells (off+e6 vs))),b.wr⟩))
   | false=>none
  | none=>none:=by
 unfold rm;cases H.get id with
 | none=>rfl
 | some b=>
  simp only[Zo,gM,kH,lk,f0];cases h1:H.lY id b with
  | false=>rfl
  | true=>
   cases h2:hH cS vs with
   | false=>simp
   | true=>
    by_cases h:off+vs.length<=b.cells.length
    simp_all[ble_eq_true_of_le]
    rw[if_neg h];have:ble (off+vs.length) b.cells.length=false:=by
     cases a:ble (off+vs.length) b.cells.length with
     | false=>rfl
     | true=>simp_all[le_of_ble_eq_true]
    simp_all
namespace Tr
theorem zV(l r:Tr α)(v:Option α)(k:Nat):(Tr.jn l v r).get (k+1)=cond (beq (Nat.mod k 2) 0) (l.get (Nat.div k 2)) (r.get (Nat.div k 2)):=rfl
theorem xy(t:Tr α)(n m:Nat)(v:Option α)(b:α)(h:(t.set n v).get m=some b):(m=n/\v=some b)\/(m≠n/\t.get m=some b):=by
 induction t generalizing n m with
 | nil=>
  cases n with
  | zero=>cases m with
   | zero=>exact .inl ⟨rfl,h⟩
   | succ m=>have aH:cond (beq (Nat.mod m 2) 0) ((Tr.nil:Tr α).get (Nat.div m 2)) ((Tr.nil:Tr α).get (Nat.div m 2))=some b:=h;cases a:beq (Nat.mod m 2) 0<;>rw[a]at aH<;>cases aH
  | succ n=>cases h
 | jn l x r c d=>
  cases n with
  | zero=>cases m with
   | zero=>exact .inl ⟨rfl,h⟩
   | succ m=>exact .inr ⟨aW,h⟩
  | succ n=>
   have e:(Tr.jn l x r).set (n+1) v=cond (beq (Nat.mod n 2) 0) (.jn (l.set (Nat.div n 2) v) x r) (.jn l x (r.set (Nat.div n 2) v)):=rfl;rw[e]at h;cases m with
   | zero=>cases a:beq (Nat.mod n 2) 0<;>rw[a]at h<;>exact .inr ⟨aW,h⟩
   | succ m=>
    have f:∀k,Nat.mod k 2=k%2:=fun _=>rfl
    have g:∀k,Nat.div k 2=k/2:=fun _=>rfl
    cases a:beq (Nat.mod n 2) 0<;>rw[a]at h<;>simp only[cond,zV]at h⊢ <;> cases i:beq (Nat.mod m 2) 0<;>rw[i]at h<;>simp only at h⊢
    grind[ne_of_beq_eq_false]
    grind
    grind
    grind[eq_of_beq_eq_true]
theorem Zp(t:Tr α)(n m:Nat)(v:Option α)(c:m≠n):(t.set n v).get m=t.get m\/((t.set n v).get m=none/\t.get m=none):=by
 cases h:(t.set n v).get m with
 | some b=>grind[xy]
 | none=>cases aH:t.get m with
  | none=>simp_all
  | some b=>
   exfalso;induction t generalizing n m with
   | nil=>cases aH
   | jn l x r d f=>
    cases n with
    | zero=>cases m with
     | zero=>omega
     | succ m=>
           have:(Tr.jn l x r).get (m+1)=none:=h
           simp_all
    | succ n=>
     have e:(Tr.jn l x r).set (n+1) v=cond (beq (Nat.mod n 2) 0) (.jn (l.set (Nat.div n 2) v) x r) (.jn l x (r.set (Nat.div n 2) v)):=rfl;rw[e]at h;cases m with
     | zero=>cases a:beq (Nat.mod n 2) 0<;>rw[a]at h<;>(have:x=none:=h)<;>(have:x=some b:=aH)<;>simp_all
     | succ m=>
      have g:∀k,Nat.mod k 2=k%2:=fun _=>rfl
      have i:∀k,Nat.div k 2=k/2:=fun _=>rfl
      cases a:beq (Nat.mod n 2) 0<;>rw[a]at h<;>simp only[cond,zV]at h aH<;>cases j:beq (Nat.mod m 2) 0<;>rw[j]at h aH<;>simp only at h aH
      grind[ne_of_beq_eq_false]
      simp_all
      simp_all
      grind[eq_of_beq_eq_true]
theorem jZ(t:Tr α)(n m:Nat)(v:Option α)(a:m≠n):(t.set n v).get m=t.get m:=by grind[Zp]
theorem uA(t:Tr α)(n:Nat):(t.set n none).get n=none:=by
 cases h:(t.set n none).get n with
 | none=>rfl
 | some b=>
       rcases xy t n n none b h with⟨_,a⟩|⟨c,_⟩
       cases a;omega
end Tr
end Go.Ab
namespace Go.Ab
open Go
variable{B H E h h1 h2 l bN m nM n f1 gm r bQ v ap w aM ca σ τ lF}
abbrev eH:=Nat->Option (Nat×Nat×Nat)
inductive bt (σ:eH):aj->aj->Prop
 | nil:bt σ [] []
 | bool {r bQ:aj} (b:Bool):bt σ r bQ->bt σ (.bool b::r) (.bool b::bQ)
 | int {r bQ:aj} (k:IntKind) (n:Int):bt σ r bQ->bt σ (.int k n::r) (.int k n::bQ)
 | string {r bQ:aj} (s:ByteArray):bt σ r bQ->bt σ (.string s::r) (.string s::bQ)
 | tg {r bQ:aj}:bt σ r bQ->bt σ (.pointer none::r) (.pointer none::bQ)
 | ad {r bQ:aj} (id off c o s:Nat):σ id=some (c,o,s)->bt σ r bQ->bt σ (.pointer (some ⟨id,off,none⟩)::r) (.pointer (some ⟨c,o+off,none⟩)::bQ)
 | jq {r bQ:aj}:bt σ r bQ->bt σ (.slice none 0 0::r) (.slice none 0 0::bQ)
 | l3 {r bQ:aj} (id off len size c o s:Nat) (a:Addr):σ id=some (c,o,s)->0<size->(len=0\/(a=⟨c,o+off,none⟩/\o+off+len*size<=s))->bt σ r bQ->
   bt σ (.slice (some ⟨id,off,none⟩) len (2*size+1)::r) (.slice (some a) len len::bQ)
 | lG {r bQ:aj} (id off len size cap c o s:Nat) (a:Addr):σ id=some (c,o,s)->0<size->len<=cap->
   ((a=⟨c,o+off,none⟩/\o+off+cap*size<=s)\/(len=0/\cap=0))->bt σ r bQ->
   bt σ (.slice (some ⟨id,off,none⟩) len (2*size)::r) (.slice (some a) len cap::bQ)
 | th {r bQ:aj}:bt σ r bQ->bt σ (.map none::r) (.map none::bQ)
 | ti {r bQ:aj} (id c o s:Nat):σ id=some (c,o,s)->bt σ r bQ->bt σ (.map (some id)::r) (.map (some c)::bQ)
 | func {r bQ:aj} (f:FuncId) (x bA y dN:Array Value):bt σ x.toList bA.toList->bt σ y.toList dN.toList->bt σ r bQ->bt σ (.func (.func f) x y::r) (.func (.func f) bA dN::bQ)
 | ol {r bQ:aj} (id c o s:Nat):σ id=some (c,o,s)->bt σ r bQ->bt σ (.func (.yield id) #[] #[]::r) (.func (.yield c) #[] #[]::bQ)
 | nilFunc {r bQ:aj}:bt σ r bQ->bt σ (.nilFunc::r) (.nilFunc::bQ)
 | nilIface {r bQ:aj}:bt σ r bQ->bt σ (.nilIface::r) (.nilIface::bQ)
 | iface {r bQ:aj} (t:TypeId) (v ap:Value):bt σ [v] [ap]->bt σ r bQ->bt σ (.iface t v::r) (.iface t ap::bQ)
 | agg {r bQ:aj} (x bA:Array Value):bt σ x.toList bA.toList->bt σ r bQ->bt σ (.agg x::r) (.agg bA::bQ)
 | tuple {r bQ:aj} (x bA:Array Value):bt σ x.toList bA.toList->bt σ r bQ->bt σ (.tuple x::r) (.tuple bA::bQ)
abbrev bV(σ:eH)(v ap:Value):Prop:=bt σ [v] [ap]
section
theorem bt.cons(h:bV σ v ap)(d:bt σ r bQ):bt σ (v::r) (ap::bQ):=by
 cases h
 case bool b _=>exact .bool b d
 case int k n _=>exact .int k n d
 case string s _=>exact .string s d
 case tg _=>exact .tg d
 case ad id off c o s i _=>exact .ad id off c o s i d
 case jq _=>exact .jq d
 case l3 id off len e c o s a i g j _=>exact .l3 id off len e c o s a i g j d
 case lG id off len e l c o s a i g j m _=>exact .lG id off len e l c o s a i g j m d
 case th _=>exact .th d
 case ti id c o s i _=>exact .ti id c o s i d
 case func f x bA y dN g j _=>exact .func f x bA y dN g j d
 case ol id c o s i _=>exact .ol id c o s i d
 case nilFunc _=>exact .nilFunc d
 case nilIface _=>exact .nilIface d
 case iface t w aE g _=>exact .iface t w aE g d
 case agg x bA g _=>exact .agg x bA g d
 case tuple x bA g _=>exact .tuple x bA g d
theorem bt.k7(h:bt σ (v::r) l):∃ap bQ,l=ap::bQ/\bV σ v ap/\bt σ r bQ:=by
 cases h
 case bool bQ b h=>exact⟨_,_,rfl,.bool b .nil,h⟩
 case int bQ k n h=>exact⟨_,_,rfl,.int k n .nil,h⟩
 case string bQ s h=>exact⟨_,_,rfl,.string s .nil,h⟩
 case tg bQ h=>exact⟨_,_,rfl,.tg .nil,h⟩
 case ad bQ id off c o s g h=>exact⟨_,_,rfl,.ad id off c o s g .nil,h⟩
 case jq bQ h=>exact⟨_,_,rfl,.jq .nil,h⟩
 case l3 bQ id off len d c o s a g e i h=>exact⟨_,_,rfl,.l3 id off len d c o s a g e i .nil,h⟩
 case lG bQ id off len d j c o s a g e i m h=>exact⟨_,_,rfl,.lG id off len d j c o s a g e i m .nil,h⟩
 case th bQ h=>exact⟨_,_,rfl,.th .nil,h⟩
 case ti bQ id c o s g h=>exact⟨_,_,rfl,.ti id c o s g .nil,h⟩
 case func bQ f x bA y dN e i h=>exact⟨_,_,rfl,.func f x bA y dN e i .nil,h⟩
 case ol bQ id c o s g h=>exact⟨_,_,rfl,.ol id c o s g .nil,h⟩
 case nilFunc bQ h=>exact⟨_,_,rfl,.nilFunc .nil,h⟩
 case nilIface bQ h=>exact⟨_,_,rfl,.nilIface .nil,h⟩
 case iface bQ t w aE e h=>exact⟨_,_,rfl,.iface t w aE e .nil,h⟩
 case agg bQ x bA e h=>exact⟨_,_,rfl,.agg x bA e .nil,h⟩
 case tuple bQ x bA e h=>exact⟨_,_,rfl,.tuple x bA e .nil,h⟩
theorem bt.nN(h:bt σ [] l):l=[]:=by cases h;rfl
theorem bt.length(h:bt σ l bN):l.length=bN.length:=by
 induction l generalizing bN with
 | nil=>rw[h.nN]
 | cons v r a=>obtain⟨ap,bQ,rfl,_,b⟩:=h.k7;grind
theorem bt.mono(i:∀id x,σ id=some x->τ id=some x)(h:bt σ l bN):bt τ l bN:=by
 induction h with
 | nil=>exact .nil
 | bool b _ d=>exact .bool b d
 | int k n _ d=>exact .int k n d
 | string s _ d=>exact .string s d
 | tg _ d=>exact .tg d
 | ad id off c o s g _ d=>exact .ad id off c o s (i _ _ g) d
 | jq _ d=>exact .jq d
 | l3 id off len e c o s a g j m _ d=>exact .l3 id off len e c o s a (i _ _ g) j m d
 | lG id off len e p c o s a g j m q _ d=>exact .lG id off len e p c o s a (i _ _ g) j m q d
 | th _ d=>exact .th d
 | ti id c o s g _ d=>exact .ti id c o s (i _ _ g) d
 | func f x bA y dN _ _ _ i1 r d=>exact .func f x bA y dN i1 r d
 | ol id c o s g _ d=>exact .ol id c o s (i _ _ g) d
 | nilFunc _ d=>exact .nilFunc d
 | nilIface _ d=>exact .nilIface d
 | iface t v ap _ _ i1 d=>exact .iface t v ap i1 d
 | agg x bA _ _ i1 d=>exact .agg x bA i1 d
 | tuple x bA _ _ i1 d=>exact .tuple x bA i1 d
theorem bt.append(h:bt σ l bN)(k:bt σ m nM):bt σ (l++m) (bN++nM):=by
 induction l generalizing bN with
 | nil=>rw[h.nN];exact k
 | cons v r a=>obtain⟨ap,bQ,rfl,b,c⟩:=h.k7;exact(b.cons (a c))
theorem bt.take(h:bt σ l bN)(n:Nat):bt σ (l.take n) (bN.take n):=by
 induction l generalizing bN n with
 | nil=>rw[h.nN];simp;exact .nil
 | cons v r a=>
  obtain⟨ap,bQ,rfl,b,c⟩:=h.k7;cases n with
  | zero=>exact .nil
  | succ n=>exact b.cons (a c n)
theorem bt.drop(h:bt σ l bN)(n:Nat):bt σ (l.drop n) (bN.drop n):=by
 induction l generalizing bN n with
 | nil=>rw[h.nN];simp;exact .nil
 | cons v r a=>
  obtain⟨ap,bQ,rfl,b,c⟩:=h.k7;cases n with
  | zero=>simp_all
  | succ n=>grind
theorem bt.get(h:bt σ l bN)(n:Nat)(v:Value)(a:l[n]?=some v):∃ap,bN[n]?=some ap/\bV σ v ap:=by
 induction l generalizing bN n with
 | nil=>simp at a
 | cons x r b=>
  obtain⟨bA,bQ,rfl,c,d⟩:=h.k7
  grind
theorem bt.set(h:bt σ l bN)(n:Nat)(b:bV σ v ap):bt σ (l.set n v) (bN.set n ap):=by
 induction l generalizing bN n with
 | nil=>rw[h.nN];simp;exact .nil
 | cons x r c=>
  obtain⟨bA,bQ,rfl,d,a⟩:=h.k7;cases n with
  | zero=>exact b.cons a
  | succ n=>exact d.cons (c a n)
theorem bV.undef:bV σ undef undef:=.tuple _ _ .nil .nil
theorem bt.getD(h:bt σ l bN)(n:Nat):bV σ (l.getD n undef) (bN.getD n undef):=by
 cases a:l[n]? with
 | none=>
  have b:=List.getElem?_eq_none_iff.1 a;have c:bN[n]?=none:=List.getElem?_eq_none_iff.2 (by have:=h.length;omega)
  simp_all[bV.undef]
 | some v=>obtain⟨u,d,e⟩:=h.get n v a;simp_all
theorem bt.MF{α:Type}(k:IntKind)(g:α->Int)(l:List α):bt σ (l.map fun x=>.int k (g x)) (l.map fun x=>.int k (g x)):=by
 induction l with
 | nil=>exact .nil
 | cons x r a=>exact .int k (g x) a
theorem zW(h:xg v=true):bV σ v v:=by
 cases v with
 | bool b=>exact .bool b .nil
 | int k n=>exact .int k n .nil
 | string s=>exact .string s .nil
 | pointer a=>cases a with
  | none=>exact .tg .nil
  | some a=>cases h
 | slice a n c=>cases a with
  | none=>simp only[xg,Bool.and_eq_true]at h;obtain rfl:=eq_of_beq_eq_true h.1;obtain rfl:=eq_of_beq_eq_true h.2;exact .jq .nil
  | some a=>cases h
 | map r=>cases r with
  | none=>exact .th .nil
  | some a=>cases h
 | func fn x y=>cases fn with
  | func f=>simp only[xg,Bool.and_eq_true,f0]at h;have d:=eq_of_beq_eq_true h.1;have e:=eq_of_beq_eq_true h.2;have g:=length_eq_zero_iff.1 d;have i:=length_eq_zero_iff.1 e;exact .func f x x y y (by rw[g];exact .nil) (by rw[i];exact .nil) .nil
  | _=>cases h
 | nilFunc=>exact .nilFunc .nil
 | nilIface=>exact .nilIface .nil
 | _=>cases h
theorem Zq(h:hH xg l=true):bt σ l l:=by
 rw[ia]at h;induction l with
 | nil=>exact .nil
 | cons v r a=>rw[all_cons,Bool.and_eq_true]at h;exact(zW h.1).cons (a h.2)
theorem rv(h:xh v=true):bV σ v v:=by
 cases v with
 | agg ag=>exact .agg ag ag (Zq h) .nil
 | tuple vs=>simp only[xh,f0]at h;have e:=length_eq_zero_iff.1 (eq_of_beq_eq_true h);exact .tuple vs vs (by rw[e];exact .nil) .nil
 | bool b=>exact .bool b .nil
 | int k n=>exact .int k n .nil
 | string s=>exact .string s .nil
 | pointer a=>exact zW h
 | slice a n c=>exact zW h
 | map r=>exact zW h
 | func fn x y=>exact zW h
 | nilFunc=>exact .nilFunc .nil
 | nilIface=>exact .nilIface .nil
 | float k b=>cases h
 | complex k a b=>cases h
 | chan r=>cases h
 | iface t v=>cases h
theorem bV.cells(h:bV σ v ap):bt σ (es v) ap.cells.toList:=by
 cases h
 case agg x bA d _=>exact d
 case bool b _=>exact .bool b .nil
 case int k n _=>exact .int k n .nil
 case string s _=>exact .string s .nil
 case tg _=>exact .tg .nil
 case ad id off c o s g _=>exact .ad id off c o s g .nil
 case jq _=>exact .jq .nil
 case l3 id off len e c o s a g d i _=>exact .l3 id off len e c o s a g d i .nil
 case lG id off len e j c o s a g d i l _=>exact .lG id off len e j c o s a g d i l .nil
 case th _=>exact .th .nil
 case ti id c o s g _=>exact .ti id c o s g .nil
 case func f x bA y dN d i _=>exact .func f x bA y dN d i .nil
 case ol id c o s g _=>exact .ol id c o s g .nil
 case nilFunc _=>exact .nilFunc .nil
 case nilIface _=>exact .nilIface .nil
 case iface t w aE d _=>exact .iface t w aE d .nil
 case tuple x bA d _=>exact .tuple x bA d .nil
end
def MG(σ:eH)(w:World)(id:Nat)(b:ef):Prop:=
 ∃c o s sg d a,σ id=some (c,o,s)/\w.heap[c]?=some (.cells sg d a)/\sg.size=s/\o+b.cells.length<=s/\
  bt σ b.cells ((sg.toList.drop o).take b.cells.length)/\(b.wr=true->a.1<=a.2/\∀i,i<s->(a.1<=i&&i<a.2)=false)
structure il (σ:eH) (B:Nat) (h:Nat->Option ef) (w:World):Prop where
 e7:∀id b,h id=some b->MG σ w id b
 own:∀id b,h id=some b->b.wr=true->∃c o s,σ id=some (c,o,s)/\B<=c
 jG:∀i j gN ft,i≠j->h i=some gN->h j=some ft->gN.wr=true->∀c o s bC l1 bJ,σ i=some (c,o,s)->σ j=some (bC,l1,bJ)->c≠bC
def GC(σ:eH)(h:Nat->Option ef)(c:Nat):Prop:=∃id b o s,h id=some b/\b.wr=true/\σ id=some (c,o,s)
structure jH (B:Nat) (σ:eH) (h:Nat->Option ef) (n:Nat) (w:World) (τ:eH) (aH:Nat->Option ef) (k6:Nat) (aE:World):Prop where
 fM:il τ B aH aE
 dI:n<=k6
 ext:∀id,id<n\/k6<=id->τ id=σ id
 mono:∀id x,σ id=some x->τ id=some x
 os:aE.os=w.os
 tape:aE.tape=w.tape
 output:aE.output=w.output
 size:w.heap.size<=aE.heap.size
 ks:∀c,c<w.heap.size->¬GC σ h c->aE.heap[c]?=w.heap[c]?
 pH:∀c,GC τ aH c->c<w.heap.size->GC σ h c
theorem jH.refl(ah:il σ B h w):jH B σ h n w σ h n w:=
 ⟨ah,Nat.le_refl _,fun _ _=>rfl,fun _ _ h=>h,rfl,rfl,rfl,Nat.le_refl _,fun _ _ _=>rfl,fun _ h _=>h⟩
theorem jH.trans(a:jH B σ h n w τ h1 f1 aM)(b:jH B τ h1 f1 aM lF h2 gm ca):
  jH B σ h n w lF h2 gm ca:=by
 refine⟨b.fM,Nat.le_trans a.dI b.dI,fun id g=>?_,fun id x i=>b.mono _ _ (a.mono _ _ i),b.os.trans a.os,b.tape.trans a.tape,b.output.trans a.output,Nat.le_trans a.size b.size,
  fun c d e=>?_,fun c f d=>a.pH c (b.pH c f (Nat.lt_of_lt_of_le d a.size)) d⟩
 have h1:=a.dI;have h2:=b.dI;rw[b.ext id U,a.ext id U];rw[b.ks c (Nat.lt_of_lt_of_le d a.size) (fun f=>e (a.pH c f d)),a.ks c d e]
open Classical in
noncomputable def fo(h:Nat->Option ef)(H E:an):Nat->Option ef:=fun id=>if E.get id=H.get id then h id else E.get id
theorem vZ(h:Nat->Option ef)(H:an):fo h H H=h:=by grind[fo]
end Go.Ab
namespace Go.Ab
open Go
variable{B P b c h aH GD id n k6 o s w aE α σ τ}
section
theorem xz(c o i:Nat):(⟨c,o,none⟩:Addr).add i=⟨c,o+i,none⟩:=by simp_all[Addr.add]
theorem Zr(w:World)(c off n:Nat)(a:Array Value)(t:TypeId)(b:Nat×Nat)(d:w.heap[c]?=some (.cells a t b))(e:off+n<=a.size):
  (loadCells ⟨c,off,none⟩ n).run P w=.ok ((a.toList.drop off).take n).toArray w:=by
 have f:((a.toList.drop off).take n).length=n:=aT
 have:=run_loadCells_list (P:=P) w ⟨c,off,none⟩ ((a.toList.drop off).take n) (fun j v g=>by simp_all[xz,getElem?_take,World.cell?])
 simp_all
theorem Zs(w:World)(c i:Nat)(a:Array Value)(t:TypeId)(b:Nat×Nat)(d:w.heap[c]?=some (.cells a t b)):w.frozen? ⟨c,i,none⟩=(b.1<=i&&i<b.2):=by simp_all[World.frozen?]
variable{P:Program} in
theorem GE(g o:Nat)(t:TypeId)(b:Nat×Nat):∀(vs:aj) (i:Nat) (a:Array Value) (w:World),w.heap[g]?=some (.cells a t b)->o+i+vs.length<=a.size->(∀v∈vs,v.oneCell'=true)->
  (∀j,j<a.size->(b.1<=j&&j<b.2)=false)->
  (storeCells ⟨g,o,none⟩ vs i).run P w=.ok () (w.setRow g (a.toList.take (o+i)++vs++a.toList.drop (o+i+vs.length)).toArray)
 | [],i,a,w,d,_,_,_=>by simp only[append_nil,length_nil,Nat.add_zero,take_append_drop];rw[setRow_self w g a t b d];rfl
 | v::di,i,a,w,d,h,h1,l=>by
  have m:o+i<a.size:=by simp at h;omega
  have c:w.cell? ⟨g,o+i,none⟩=some a[o+i]:=by simp[World.cell?,d]
  have f:w.frozen? ⟨g,o+i,none⟩=false:=by rw[Zs w g (o+i) a t b d];exact l _ m
  have k:(store ((⟨g,o,none⟩:Addr).add i) v).run P w=.ok () (w.setRow g (a.setIfInBounds (o+i) v)):=by rw[xz,run_store P w _ v _ (h1 v aW),c];simp[f,setCell_eq_setRow w g (o+i) a t b v d]
  have n:=GE g o t b di (i+1) (a.setIfInBounds (o+i) v) (w.setRow g (a.setIfInBounds (o+i) v)) (setRow_heap w g a _ t _ d) (by simp at h⊢;omega) (fun x p=>h1 x (by simp[p])) (by simpa using l);simp only[storeCells,Sem.run_bind,k,Result.andThen_ok,n,setRow_setRow]
  congr 3
  have e:=list_seg_step a.toList (o+i) v di (by simp at h⊢;omega);simpa [Array.toList_setIfInBounds,Nat.add_assoc]using e
end
namespace Tr
theorem MH(t:Tr α)(n:Nat)(v:Option α)(b:α)(h:t.get n=some b):(t.set n v).get n=v:=by
 induction t generalizing n with
 | nil=>cases h
 | jn l x r c d=>
  cases n with
  | zero=>rfl
  | succ n=>
   have e:(Tr.jn l x r).set (n+1) v=cond (beq (Nat.mod n 2) 0) (.jn (l.set (Nat.div n 2) v) x r) (.jn l x (r.set (Nat.div n 2) v)):=rfl;rw[e];rw[zV]at h;cases a:beq (Nat.mod n 2) 0<;>rw[a]at h<;>simp only[cond,zV]at h⊢ <;> rw[a]
   grind
   simp_all
end Tr
section
theorem il.MI(ah:il σ B h w)(a:h id=some b)(e:σ id=some (c,o,s)):c<w.heap.size:=by
 obtain⟨bC,f,bJ,d,g,i,j,k,_⟩:=ah.e7 id b a
 grind
theorem MJ(ah:il σ B h w)(c7:B<=w.heap.size)(id:Nat)(W:σ id=none)(ag bI di:aj)(t:TypeId)(y:Nat×Nat)(L:bt σ ag bI)
  (H:y.1<=y.2/\∀i,i<bI.length+di.length->(y.1<=i&&i<y.2)=false) (k:Nat) (aH:Nat->Option ef) (z:∀i b,aH i=some b->(i=id/\b=⟨ag,true⟩)\/(i≠id/\h i=some b)):
  jH B σ h id w (fun i=>if i=id then some (w.heap.size,0,bI.length+di.length)else σ i) aH (id+1)
   {w with heap:=w.heap.push (.cells (bI++di).toArray t y),drawn:=k}:=by
 let τ:eH:=fun i=>if i=id then some (w.heap.size,0,bI.length+di.length)else σ i
 have d:∀i x,σ i=some x->τ i=some x:=fun i x ey=>aT
 have M:∀i b,h i=some b->i≠id:=fun i b n e=>by
  obtain⟨c,o,s,_,_,_,l,_⟩:=ah.e7 i b n
  simp_all
 have p:τ id=some _:=if_pos rfl;have f:∀i,i≠id->τ i=σ i:=fun i a=>if_neg a
 have N:=L.length;refine⟨⟨?_,?_,?_⟩,U,?_,d,rfl,rfl,rfl,aW,?_,?_⟩;intro i b n;rcases z i b n with⟨rfl,rfl⟩|⟨a,g⟩
 refine⟨w.heap.size,0,_,(bI++di).toArray,t,y,p,aW,aW,aT,?_,fun _=>H⟩;have:((bI++di).toArray.toList.drop 0).take ag.length=bI:=aT
 simp only[this];exact L.mono d;obtain⟨c,o,s,I,X,J,l,m,eh,g0,iL,j0⟩:=ah.e7 i b g;have q:=(Array.getElem?_eq_some_iff.1 m).1;refine⟨c,o,s,I,X,J,(f i a).trans l,?_,eh,g0,iL.mono d,j0⟩
 grind
 intro i b n C;rcases z i b n with⟨rfl,rfl⟩|⟨a,g⟩
 simp_all
 obtain⟨c,o,s,l,m⟩:=ah.own i b g C
 simp_all
 intro i j gN ft a aB S C c o s bC V bJ l m;have l:τ i=some (c,o,s):=l;have m:τ j=some (bC,V,bJ):=m;rcases z i gN aB with⟨MK,rfl⟩|⟨K,F⟩
 rcases z j ft S with⟨zX,rfl⟩|⟨r,u⟩
 omega;rw[f j r]at m;have q:=ah.MI u m
 grind
 rw[f i K]at l;rcases z j ft S with⟨zX,rfl⟩|⟨r,u⟩
 have q:=ah.MI F l
 grind
 rw[f j r]at m;exact ah.jG i j gN ft a F u C c o s bC V bJ l m
 grind
 grind
 rintro c ⟨i,b,o,s,n,C,v⟩ q;have v:=v;rcases z i b n with⟨MK,rfl⟩|⟨a,g⟩
 simp_all
 exact⟨i,b,o,s,g,C,(f i a).symm.trans v⟩
theorem Zt(ah:il σ B h w)(id off:Nat)(b:ef)(t:h id=some b)(z:b.wr=true)(vs pI:aj)(V:bt σ vs pI)(W:off+vs.length<=b.cells.length)
  (c o s:Nat) (a:Array Value) (d4:TypeId) (C:Nat×Nat) (h1:σ id=some (c,o,s)) (h2:w.heap[c]?=some (.cells a d4 C))
  (aH:Nat->Option ef) (F:∀i cA,aH i=some cA->(i=id/\cA=⟨b.cells.take off++vs++b.cells.drop (off+vs.length),b.wr⟩)\/(i≠id/\h i=some cA)):
  jH B σ h n w σ aH n (w.setRow c (a.toList.take (o+off)++pI++a.toList.drop (o+off+pI.length)).toArray):=by
 have H:=V.length;obtain⟨bC,p,bJ,X,Zu,Zv,cU,dw,gO,kt,lH,m7⟩:=ah.e7 id b t;rw[h1]at cU;cases cU;rw[h2]at dw;cases dw;have rx:=(Array.getElem?_eq_some_iff.1 h2).1;have sh:∀j ft,j≠id->h j=some ft->∀bC p bJ,σ j=some (bC,p,bJ)->bC≠c:=fun j ft f jI bC p bJ l e=>ah.jG id j b ft (Ne.symm f) t jI z c o s bC p bJ h1 l e.symm
 refine⟨⟨?_,?_,?_⟩,Nat.le_refl _,fun _ _=>rfl,fun _ _ h=>h,rfl,rfl,rfl,aW,?_,?_⟩;intro i cA g;rcases F i cA g with⟨rfl,rfl⟩|⟨f,d⟩
 refine⟨c,o,s,_,d4,C,h1,setRow_heap w c a _ d4 C h2,?_,?_,?_,m7⟩
 grind
 grind
 have u:(b.cells.take off++vs++b.cells.drop (off+vs.length)).length=b.cells.length:=aT
 simp only[u];have v:((a.toList.take (o+off)++pI++a.toList.drop (o+off+pI.length)).drop o).take b.cells.length=
   (((a.toList.drop o).take b.cells.length).take off++pI++((a.toList.drop o).take b.cells.length).drop (off+pI.length)):=by
  apply ext_getElem?;intro k;simp only[getElem?_take,getElem?_drop,getElem?_append,length_append,length_take,length_drop,Array.length_toList];have i2:min (o+off) a.size=o+off:=U
  have mP:min b.cells.length (a.size-o)=b.cells.length:=U
  have a3:min off b.cells.length=off:=U
  grind
 have I:=v;rw[I,<- H];exact((lH.take off).append V).append (lH.drop (off+vs.length));obtain⟨mv,cP,ej,x,J,K,eA,fC,g3,g4,g5,pJ⟩:=ah.e7 i cA d;refine⟨mv,cP,ej,x,J,K,eA,?_,g3,g4,g5,pJ⟩
 grind[setRow_other]
 intro i cA g q;rcases F i cA g with⟨rfl,rfl⟩|⟨f,d⟩
 exact ah.own i b t z;exact ah.own i cA d q;intro i j gN ft f aB jI L;have Zw:∃m,h i=some m/\m.wr=gN.wr:=aT
 have Zx:∃r,h j=some r:=aT
 obtain⟨m,M,N⟩:=Zw;obtain⟨r,S⟩:=Zx;exact ah.jG i j m r f M S (N.trans L);intro k fD y;refine setRow_other w c k _ ?_;intro e;subst e;exact y ⟨id,b,o,s,t,z,h1⟩;rintro k ⟨i,cA,p,bJ,g,q,l⟩ _;rcases F i cA g with⟨rfl,rfl⟩|⟨f,d⟩
 exact⟨i,b,p,bJ,t,z,l⟩;exact⟨i,cA,p,bJ,d,q,l⟩
theorem Zy(ah:il σ B h w)(id:Nat)(b:ef)(t:h id=some b)(x:b.wr=true)(c o s:Nat)(a:Array Value)(d4:TypeId)(p:Nat×Nat)(h1:σ id=some (c,o,s))(h2:w.heap[c]?=some (.cells a d4 p)):
  jH B σ h n w σ h n (w.freeze {block:=c,off:=a.size} 1):=by
 obtain⟨bC,u,bJ,F,K,L,H,I,M,N,S,V⟩:=ah.e7 id b t;rw[h1]at H;cases H;rw[h2]at I;cases I
 let aM:=w.freeze {block:=c,off:=a.size} 1
 have d:∀i,i≠c->aM.heap[i]?=w.heap[i]?:=fun i v=>by
  show(World.freeze w {block:=c,off:=a.size} 1).heap[i]?=_
  simp_all[World.freeze,Array.getElem?_modify,Ne.symm]
 have f:aM.heap[c]?=some (.cells a d4 (if p.1==p.2 then(a.size,a.size+1)else(min p.1 a.size,max p.2 (a.size+1)))):=by
  show(World.freeze w {block:=c,off:=a.size} 1).heap[c]?=_;unfold World.freeze
  grind
 have g:aM.heap.size=w.heap.size:=by
  show(World.freeze w {block:=c,off:=a.size} 1).heap.size=_
  simp_all[World.freeze]
 have l:aM.os=w.os/\aM.tape=w.tape/\aM.output=w.output:=by
  show(World.freeze w {block:=c,off:=a.size} 1).os=_/\(World.freeze w {block:=c,off:=a.size} 1).tape=_/\(World.freeze w {block:=c,off:=a.size} 1).output=_
  simp_all[World.freeze]
 have W:∀j ft,j≠id->h j=some ft->∀bC u bJ,σ j=some (bC,u,bJ)->bC≠c:=fun j ft d X bC u bJ y e=>ah.jG id j b ft (Ne.symm d) t X x c o s bC u bJ h1 y e.symm
 refine⟨⟨?_,ah.own,ah.jG⟩,Nat.le_refl _,fun _ _=>rfl,fun _ _ h=>h,l.1,l.2.1,l.2.2,Nat.le_of_eq g.symm,?_,fun _ h _=>h⟩;intro i cA m;by_cases v:i=id;subst v;rw[t]at m;cases m;refine⟨c,o,s,a,d4,_,h1,f,M,N,S,fun _=>?_⟩;obtain⟨si,l4⟩:=V x;obtain⟨J,v⟩:=p;simp only at si l4⊢;by_cases he:J=v
 grind
 have av5:s<=J:=aT
 grind
 obtain⟨mv,cP,ej,q,z,C,eA,fC,g3,g4,g5,pJ⟩:=ah.e7 i cA m;exact⟨mv,cP,ej,q,z,C,eA,aT,g3,g4,g5,pJ⟩;intro k fD r;refine d k fun e=>r ?_
 subst e;exact⟨id,b,o,s,t,x,h1⟩
end
end Go.Ab
namespace Go.Ab
open Go
variable{D P b ag bI d e id k eF l bN n off s cq t v x ae zY bl CC z σ}
theorem m8(m n:Nat):blt m n=decide (m<n):=by grind[blt,kI]
theorem CD(b a:Nat)(g:a=2*b)(i:0<b)(n:Int):
  qo b a n=if n%(a:Int)<b then n%(a:Int)else n%(a:Int)-a:=by
 cases n with
 | ofNat m=>
  simp only[qo,Int.ofNat_eq_natCast];have e:((m:Int)%(a:Int))=((m%a:Nat):Int):=U
  rw[e];cases h:blt m b with
  | true=>
   have:m<b:=a1
   have c:m%a=m:=mod_eq_of_lt U
   simp_all
  | false=>
   cases h2:blt (m%a) b with
   | true=>
    have:m%a<b:=a1
    grind
   | false=>
    have d:¬m%a<b:=by simp_all[m8]
    have f:m%a<a:=mod_lt _ U
    grind
 | negSucc m=>
  simp only[qo];have e:(Int.negSucc m%(a:Int))=((a-1-m%a:Nat):Int):=by have f:m%a<a:=mod_lt _ U;rw[Int.negSucc_emod m U];omega
  cases h:blt m b with
  | true=>
   have:m<b:=a1
   have c:m%a=m:=mod_eq_of_lt U
   grind
  | false=>
   cases h2:blt (m%a) b with
   | true=>
    have:m%a<b:=a1
    grind
   | false=>
    have d:¬m%a<b:=by simp_all[m8]
    grind
theorem ML(a:Nat)(b:0<a)(n:Int):o3 a n=n%(a:Int):=by
 cases n with
 | ofNat m=>rfl
 | negSucc m=>simp only[o3,Int.ofNat_eq_natCast];have c:m%a<a:=mod_lt _ b;rw[Int.negSucc_emod m U];omega
theorem qz(k:IntKind)(n:Int):hk k n=k.wrap n:=by
 cases k<;>simp only[hk,IntKind.wrap,IntKind.bits,IntKind.signed]
 ·grind[CD]
 ·grind[CD]
 ·grind[CD]
 ·grind[CD]
 all_goals rw[ML _ U];simp
theorem CE(k:IntKind)(n:Int):l0 k n=(BitVec.ofInt k.bits n).toNat:=by cases k<;>simp only[l0]<;>rw[ML _ U]<;>rfl
theorem MM(h:qn k eF=true):k=eF:=by cases k<;>cases eF<;>first|rfl|cases h
section
theorem bV.l6(h:bV σ (.int k n) v):v=.int k n:=by cases h;rfl
theorem bV.CF(h:bV σ (.bool b) v):v=.bool b:=by cases h;rfl
theorem bV.uB(h:bV σ (.string s) v):v=.string s:=by cases h;rfl
theorem bV.xA(h:bV σ (.agg x) v):∃bA,v=.agg bA/\bt σ x.toList bA.toList:=by cases h;simp_all
theorem bV.Zz(h:bV σ (.tuple x) v):∃bA,v=.tuple bA/\bt σ x.toList bA.toList:=by cases h;simp_all
theorem bV.zZ(h:bV σ (.pointer (some ⟨id,off,cq⟩)) v):cq=none/\∃c o s,v=.pointer (some ⟨c,o+off,none⟩)/\σ id=some (c,o,s):=by cases h;simp_all
theorem bV.bool:bV σ (.bool b) (.bool b):=bt.bool b .nil
theorem bV.int:bV σ (.int k n) (.int k n):=bt.int k n .nil
theorem bV.string:bV σ (.string s) (.string s):=bt.string s .nil
theorem bV.sg(h:bt σ l bN):bV σ (.agg l.toArray) (.agg bN.toArray):=.agg _ _ U .nil
theorem ZA(c:BinOp)(k:IntKind)(a b:Int)(t:TypeId)(e f:Operand)(aB:xj c=none)(h:Cg c k a b=some v)(w:World):
  (do eqGuard c t e f (.int k a) (.int k b);binOp c t (.int k a) (.int k b)).run P w=.ok v w/\bV σ v v:=by
 have g:(eqGuard c t e f (.int k a) (.int k b)).run P w=.ok () w:=by cases c<;>rfl
 rw[Sem.run_bind,g,Result.andThen_ok];cases c<;>simp only[Cg]at h<;>try cases h
 case add=>exact⟨by simp[binOp,Op.intArith,qz],.int⟩
 case sub=>exact⟨by simp[binOp,Op.intArith,qz],.int⟩
 case mul=>exact⟨by simp[binOp,Op.intArith,qz],.int⟩
 case quo=>
  rw[ow]at h;by_cases d:b=0
  ·simp_all
  ·simp[d]at h;subst h;exact⟨by simp[binOp,Op.intDiv,d,qz],.int⟩
 case rem=>
  rw[ow]at h;by_cases d:b=0
  ·simp_all
  ·simp[d]at h;subst h;exact⟨by simp[binOp,Op.intDiv,d],.int⟩
 case and=>exact⟨by simp_all[binOp,Op.intBits,qz,CE],.int⟩
 case or=>exact⟨by simp_all[binOp,Op.intBits,qz,CE],.int⟩
 case xor=>exact⟨by simp_all[binOp,Op.intBits,qz,CE],.int⟩
 case eql=>exact⟨by simp[binOp,ow];rfl,.bool⟩
 case neq=>exact⟨by simp[binOp,ow];rfl,.bool⟩
 case lss=>exact⟨by simp[binOp,Op.intCmp,i0];grind,.bool⟩
 case leq=>exact⟨by simp[binOp,Op.intCmp,i0],.bool⟩
 case gtr=>exact⟨by simp[binOp,Op.intCmp,i0];grind,.bool⟩
 case geq=>exact⟨by simp[binOp,Op.intCmp,i0],.bool⟩
theorem ZB(a b:ByteArray):(⟨(gx a.data.toList b.data.toList).toArray⟩:ByteArray)=a++b:=by rw[gM];rfl
theorem ZC(c:BinOp)(a b:ByteArray)(t:TypeId)(f g:Operand)(aB:xj c=none)(h:zH c a.data.toList b.data.toList=some v)(w:World):
  (do eqGuard c t f g (.string a) (.string b);binOp c t (.string a) (.string b)).run P w=.ok v w/\bV σ v v:=by
 have i:(eqGuard c t f g (.string a) (.string b)).run P w=.ok () w:=by cases c<;>rfl
 have j:=ByteArray.toList_eq a;have k:=ByteArray.toList_eq b;cases c<;>simp only[zH]at h<;>try cases h
 case add=>
  split at h
  ·rename_i d;cases h;rw[ZB];rw[f0,f0,kI]at d;have d:=of_decide_eq_true d;have cr:a.data.toList.length=a.size:=ao
   have l:b.data.toList.length=b.size:=ao
   have:¬(((a.size+b.size:Nat):Int)>IntKind.i64.max):=by
    have e:IntKind.i64.max=9223372036854775807:=bT
    omega
   refine⟨?_,.string⟩;show(Op.stringOp .add a b).run P w=_
   simp_all[Op.stringOp]
  ·cases h
 case eql=>exact⟨by simp_all[binOp,Op.stringOp],.bool⟩
 case neq=>exact⟨by simp_all[binOp,Op.stringOp],.bool⟩
 case lss=>exact⟨by simp_all[binOp,Op.stringOp],.bool⟩
 case leq=>exact⟨by simp_all[binOp,Op.stringOp],.bool⟩
 case gtr=>exact⟨by simp_all[binOp,Op.stringOp],.bool⟩
 case geq=>exact⟨by simp_all[binOp,Op.stringOp],.bool⟩
theorem GF(h:m4 P t=some b)(w:World):(isAgg t).run P w=.ok b w:=by
 unfold m4 at h;cases a:P.underlying t with
 | none=>simp_all
 | some d=>rw[a]at h;unfold isAgg;rw[Sem.run_bind,run_underlying a w];cases d<;>simp at h<;>subst h<;>rfl
theorem l7(h:fQ P t=some n)(w:World):(sizeOf t).run P w=.ok n w:=by
 unfold fQ at h;cases aB:P.info? t with
 | none=>simp_all
 | some i=>simp_all[sizeOf,typeInfo]
theorem pK(h:gy P t=some z)(w:World):(zeroValue t).run P w=.ok z w/\xh z=true:=by
 unfold gy at h;cases aB:P.info? t with
 | none=>simp_all
 | some i=>
  cases b:i.zero with
  | none=>simp_all
  | some a=>
   cases c:xh a with
   | false=>simp_all
   | true=>simp_all[zeroValue,typeInfo]
theorem z1(c:bt σ ag bI.toList)(h:pE P t ag off=some v)(w:World):
  ∃ap,(part t bI off).run P w=.ok ap w/\bV σ v ap:=by
 unfold pE at h;cases a:m4 P t with
 | none=>simp_all
 | some b=>
  cases ah:fQ P t with
  | none=>simp_all
  | some n=>
   unfold part;rw[Sem.run_bind,GF a w,Result.andThen_ok];cases b with
   | true=>
    simp only[a,ah]at h;cases h;refine⟨.agg (bI.extract off (off+n)),?_,?_⟩;simp[l7 ah w];rw[kH,lk];refine .agg _ _ ?_ .nil;have:(bI.extract off (off+n)).toList=(bI.toList.drop off).take n:=a1
    simpa using(c.drop off).take n
   | false=>
    simp only[a,ah,ru]at h;obtain⟨ap,d,e⟩:=c.get off v h
    simp_all
theorem MN(k:bt σ ae zY.toList)(l:bt σ bl CC.toList)
  (m:∀t x y b bA dN,lZ P d t x y=some b->bV σ x bA->bV σ y dN->∀w,(Op.equalIn D t bA dN).run P w=.ok b w):
  ∀(aK:List Field) (b:Bool),eqFields P (lZ P d) ae bl aK=some b->∀w,(Op.eqFields D zY CC aK).run P w=.ok b w
 | [],b,h,w=>by cases h;rfl
 | f::aK,b,h,w=>by
  unfold eqFields at h;split at h;cases h;rename_i n;have g:f.name≠ "_" := by simpa using n
  cases i:pE P f.type ae f.offset with
  | none=>simp[i]at h
  | some a=>
   cases j:pE P f.type bl f.offset with
   | none=>simp[j]at h
   | some c=>
    simp only[i,j]at h;obtain⟨u,o,p⟩:=z1 k i w;obtain⟨bC,ch,q⟩:=z1 l j w;cases e:lZ P d f.type a c with
    | none=>simp[e]at h
    | some r=>
     have s:=m _ _ _ _ _ _ e p q w;simp only[Op.eqFields,g,ne_eq,not_false_eq_true,if_true,Sem.run_bind,o,ch,s,Result.andThen_ok];cases r with
     | false=>simp[e]at h;subst h;rfl
     | true=>simp only[e]at h;simpa using MN k l m aK b h w
theorem MO(g:P.cellsOf e=n)(m:bt σ ae zY.toList)(o:bt σ bl CC.toList)
  (p:∀t x y b bA dN,lZ P d t x y=some b->bV σ x bA->bV σ y dN->∀w,(Op.equalIn D t bA dN).run P w=.ok b w):
  ∀(k i:Nat) (b:Bool),xi P (lZ P d e) e n ae bl k i=some b->∀w,(Op.eqItems D e (P.cellsOf e) zY CC (range' i k)).run P w=.ok b w
 | 0,i,b,h,w=>by cases h;rfl
 | k+1,i,b,h,w=>by
  unfold xi at h;cases j:pE P e ae (i*n)with
  | none=>simp[j]at h
  | some a=>
   cases l:pE P e bl (i*n)with
   | none=>simp[l]at h
   | some c=>
    simp only[j,l]at h;obtain⟨z,q,s⟩:=z1 m j w;obtain⟨bC,ch,u⟩:=z1 o l w;cases f:lZ P d e a c with
    | none=>simp[f]at h
    | some r=>
     have v:=p _ _ _ _ _ _ f s u w;simp only[range'_succ,Op.eqItems,g,Sem.run_bind,q,ch,v,Result.andThen_ok];cases r with
     | false=>simp[f]at h;subst h;rfl
     | true=>simp only[f]at h;have:=MO g m o p k (i+1) b h w;rw[g]at this;simpa using this
theorem CG:∀(d:Nat) (t:TypeId) (x y:Value) (b:Bool) (bA dN:Value),lZ P d t x y=some b->bV σ x bA->bV σ y dN->∀(D:Nat) (w:World),d<=D->(Op.equalIn D t bA dN).run P w=.ok b w
 | 0,t,x,y,b,bA,dN,h,_,_,D,w,_=>by cases h
 | d+1,t,x,y,b,bA,dN,h,f,g,D,w,i3=>by
  obtain⟨D,rfl⟩:∃v,D=v+1:=⟨D-1,U⟩;unfold lZ at h;cases c:P.underlying t with
  | none=>simp[c]at h
  | some F=>
   simp only[c]at h;split at h
   case h_1 a=>cases a;cases h;rw[f.CF,g.CF];exact run_equalIn_bool w D t _ _ c
   case h_2 a=>
    cases a;rw[f.l6,g.l6];split at h
    ·rename_i z;cases h;rw[MM z,run_equalIn_int w D t _ _ _ _ c,ow];rfl
    ·cases h
   case h_3 a=>cases a;cases h;rw[f.uB,g.uB,run_equalIn_string w D t _ _ c,ByteArray.toList_eq,ByteArray.toList_eq]
   case h_4 a=>cases a;cases h;cases f;cases g<;>simp[Op.equalIn,run_underlying c]
   case h_5 a=>cases a;cases h;cases f;cases g;simp[Op.equalIn,run_underlying c]
   case h_6 a=>cases a;cases h;cases f;cases g;simp[Op.equalIn,run_underlying c]
   case h_7 a=>cases a;cases h;cases f;cases g;simp[Op.equalIn,run_underlying c]
   case h_8 a=>cases a;cases h;cases f;cases g;simp[Op.equalIn,run_underlying c]
   case h_9 a=>cases a;cases h;cases f;cases g<;>simp[Op.equalIn,run_underlying c]
   case h_10 a=>cases a;cases h;cases g;cases f<;>simp[Op.equalIn,run_underlying c]
   case h_11 a=>cases a;cases h;cases f;cases g;simp[Op.equalIn,run_underlying c]
   case h_12 a=>cases a;cases h;cases f;cases g<;>simp[Op.equalIn,run_underlying c]
   case h_13 a=>cases a;cases h;cases f<;>cases g<;>simp[Op.equalIn,run_underlying c]
   case h_14 a=>
    rename_i j ae B;cases a;obtain⟨k,rfl,m⟩:=f.xA;obtain⟨l,rfl,o⟩:=g.xA;split at h
    ·cases h
    ·rename_i p;have u:P.fieldsOf t=j:=by simp[Program.fieldsOf,c]
     rw[run_equalIn_struct w D t k l (by rw[u];exact c) (by simpa using p),u];exact MN m o (fun t x y b bA dN q r s w=>CG d t x y b bA dN q r s D w U) _ _ h w
   case h_15 a=>
    rename_i len e ae B;cases a;obtain⟨k,rfl,m⟩:=f.xA;obtain⟨l,rfl,o⟩:=g.xA;cases ah:fQ P e with
    | none=>simp[ah]at h
    | some n=>
     simp only[ah]at h;cases aB:P.info? e with
     | none=>simp[fQ,aB]at ah
     | some i=>
      have C:P.cellsOf e=n:=by simp[fQ,aB]at ah;simp[Program.cellsOf,aB,ah]
      rw[run_equalIn_array w D k l c aB,range_eq_range'];exact MO C m o (fun t x y b bA dN q r s w=>CG d t x y b bA dN q r s D w U) _ _ _ h w
   case h_16=>cases h
end
end Go.Ab
namespace Go.Ab
open Go
variable{B H E P c cap ag h id len s size v w σ τ}
section
theorem ZD(l:Bool)(k eF:IntKind)(a b:Int)(c:BinOp)(d:xj c=some l)(t:TypeId)(e f:Operand)(h:vG l k a b=some v)(w:World):
  (do eqGuard c t e f (.int k a) (.int eF b);binOp c t (.int k a) (.int eF b)).run P w=.ok v w/\bV σ v v:=by
 unfold vG at h;split at h;cases h;have g:∀n:Nat,(2:Int)^n=((2^n:Nat):Int):=fun n=>aW
 cases c<;>cases d;simp at h;subst h;refine⟨?_,.int⟩;show(Op.shift .shl k a eF b).run P w=_
 simp_all[Op.shift,if_neg,qz]
 simp at h;subst h;refine⟨?_,.int⟩;show(Op.shift .shr k a eF b).run P w=_
 simp_all[Op.shift,if_neg]
theorem MP(a:BinOp)(t:TypeId)(b c:Operand)(x y bA dN:Value)(d:tb P t (ro b||ro c) x y=true)(f:bV σ x bA)(e:bV σ y dN)(w:World):
  (eqGuard a t b c bA dN).run P w=.ok () w:=by
 unfold eqGuard;cases f
 case nilIface=>
  cases e
  case nilIface=>simp only[tb]at d;cases b<;>cases c<;>simp[ro]at d<;>cases a<;>simp
  all_goals cases a<;>simp
 case agg ae g _ _=>
  cases e
  case agg i h _ _=>simp_all[tb]
  all_goals cases a<;>simp
 all_goals cases a<;>simp
def GG(bA:Value):Bool:=match bA with|.int _ _=>false|.float _ _=>false|.complex _ _ _=>false|.string _=>false|_=>true
theorem ZE(t:TypeId)(bA dN:Value)(a:GG bA=true):
  binOp .eql t bA dN=(do pure (.bool (<- Op.equal t bA dN)))/\binOp .neq t bA dN=(do pure (.bool (!(<- Op.equal t bA dN)))):=by
 cases bA<;>first|(simp[GG]at a;done)|(cases dN<;>exact⟨rfl,rfl⟩)
theorem ZF(c:BinOp)(t:TypeId)(d e:Operand)(x y bA dN:Value)(h:Gm P c t (ro d||ro e) x y=some v)(f:bV σ x bA)(g:bV σ y dN)
  (i:GG bA=true) (w:World):
  ∃ap,(do eqGuard c t d e bA dN;binOp c t bA dN).run P w=.ok ap w/\bV σ v ap:=by
 obtain⟨k,l⟩:=ZE t bA dN i;cases c<;>simp only[Gm]at h<;>try cases h
 case eql=>
  split at h
  ·cases a:lZ P 100 t x y with
   | none=>simp_all
   | some b=>
    simp[a]at h;subst h;refine⟨.bool b,?_,.bool⟩;have j:=CG 100 t x y b bA dN a f g 10000 w U
    grind[Sem.run_bind,MP,Result.andThen_ok,Op.equal,Op.maxDepth,Sem.run_pure]
  ·cases h
 case neq=>
  split at h
  ·cases a:lZ P 100 t x y with
   | none=>simp_all
   | some b=>
    simp[a]at h;subst h;refine⟨.bool (!b),?_,.bool⟩;have j:=CG 100 t x y b bA dN a f g 10000 w U
    grind[Sem.run_bind,MP,Result.andThen_ok,Op.equal,Op.maxDepth,Sem.run_pure]
  ·cases h
theorem ZG(b:BinOp)(t:TypeId)(e g:Operand)(x y bA dN:Value)(h:(cz P b t (ro e||ro g)).f x y=some v)(c:bV σ x bA)(d:bV σ y dN)(w:World):
  ∃ap,(do eqGuard b t e g bA dN;binOp b t bA dN).run P w=.ok ap w/\bV σ v ap:=by
 unfold cz at h;cases ah:xj b with
 | some l=>
  simp only[ah]at h;cases x<;>simp only at h<;>try cases h
  cases y<;>simp only at h<;>try cases h
  rw[c.l6,d.l6]
  grind[ZD]
 | none=>
  simp only[ah]at h;cases x
  case int k a=>
   cases y<;>simp only at h<;>try cases h
   split at h
   ·rename_i i;rw[c.l6,d.l6,<- MM i]
    grind[ZA]
   ·cases h
  case string a=>
   cases y<;>simp only at h<;>try cases h
   rw[c.uB,d.uB]
   grind[ZC]
  case float=>cases h
  case complex=>cases h
  all_goals
   refine ZF b t e g _ y bA dN h c d ?_ w;cases c<;>rfl
theorem ZH(a:UnOp)(x bA:Value)(h:kq a x=some v)(c:bV σ x bA)(w:World):∃ap,(Op.unary a bA).run P w=.ok ap w/\bV σ v ap:=by
 unfold kq at h;cases x<;>simp only at h<;>try cases h
 case int k n=>
  rw[c.l6];cases a<;>simp only at h<;>cases h
  ·exact⟨_,by simp[Op.unary,Op.intArith,qz],.int⟩
  ·refine⟨_,?_,.int⟩
   simp_all[Op.unary,Op.intBits,qz,CE]
 case bool b=>rw[c.CF];cases a<;>simp only at h<;>cases h;exact⟨_,rfl,.bool⟩
def fE(P:Program)(B:Nat)(s:Sem Value)(w:World)(σ:eH)(h:Nat->Option ef)(H:an)(v:Value)(E:an):Prop:=
 ∃ap aE τ,s.run P w=.ok ap aE/\bV τ v ap/\jH B σ h H.next w τ (fo h H E) E.next aE
theorem fE.pure(ah:il σ B h w)(a:∃ap,s.run P w=.ok ap w/\bV σ v ap):fE P B s w σ h H v H:=by obtain⟨ap,b,c⟩:=a;exact⟨ap,w,σ,b,c,by grind[vZ,jH.refl]⟩
theorem ZI(ah:il σ B h w)(d:σ H.next=none)(i:Nat)(b:ef)
  (a:fo h H ⟨H.t.set H.next (some ⟨ag,true⟩),succ H.next,H.cX,H.c5⟩ i=some b):(i=H.next/\b=⟨ag,true⟩)\/(i≠H.next/\h i=some b):=by
 have f:h H.next=none:=by
  cases hh:h H.next with
  | none=>rfl
  | some b=>obtain⟨c,o,s,_,_,_,e,_⟩:=ah.e7 _ _ hh;simp_all
 unfold fo at a;by_cases aB:i=H.next;split at a
 simp_all
 rcases Tr.xy _ _ _ _ _ a with⟨_,g⟩|⟨e,_⟩
 simp_all
 omega
 simp_all[an.get,Tr.jZ]
theorem MQ(ah:il σ B h w)(c7:B<=w.heap.size)(c:σ H.next=none)(ag bI di:aj)(t:TypeId)(a:Nat×Nat)(e:bt σ ag bI)
  (d:a.1<=a.2/\∀i,i<bI.length+di.length->(a.1<=i&&i<a.2)=false) (k:Nat):
  ∃ τ,τ H.next=some (w.heap.size,0,bI.length+di.length)/\jH B σ h H.next w τ (fo h H ⟨H.t.set H.next (some ⟨ag,true⟩),succ H.next,H.cX,H.c5⟩) (H.next+1)
   {w with heap:=w.heap.push (.cells (bI++di).toArray t a),drawn:=k}:=
 ⟨_,if_pos rfl,MJ ah c7 H.next c ag bI di t a e d k _ fun i b f=>ZI ah c i b f⟩
theorem MR(ah:il σ B h w)(c7:B<=w.heap.size)(a:∀i,H.next<=i->i<E.next->σ i=none)(ag:aj)(u:Value)(t:TypeId)(b:bt σ ag u.cells.toList)
  (c:un ag H=some (v,E)):fE P B (do pure (.pointer (some (<- newVar t u)))) w σ h H v E:=by
 cases c;obtain⟨τ,d,e⟩:=MQ ah c7 (a H.next (Nat.le_refl _) (lt_succ_self _)) ag u.cells.toList [] t (0,0) b aW w.drawn;refine⟨.pointer (some ⟨w.heap.size,0,none⟩),_,τ,?_,.ad _ _ _ 0 _ d .nil,e⟩;simp[newVar,newRow]
theorem MS(h:τ id=some (c,0,s))(ah:0<size)(a:len*size<=s):bV τ (.slice (some ⟨id,0,none⟩) len (2*size+1)) (.slice (some ⟨c,0,none⟩) len len):=
 .l3 id 0 len size c 0 s _ h ah (.inr ⟨aW,U⟩) .nil
theorem xB(h:τ id=some (c,0,s))(ah:0<size)(a:len<=cap)(b:cap*size<=s):bV τ (.slice (some ⟨id,0,none⟩) len (2*size)) (.slice (some ⟨c,0,none⟩) len cap):=
 .lG id 0 len size cap c 0 s _ h ah a (.inl ⟨aW,U⟩) .nil
end
end Go.Ab
namespace Go.Ab
open Go
variable{B H E P a dP c f h id l bN n o off lB s t v vs pI w x bA z σ}
section
def z2(h:Nat->Option ef)(H:an)(id:Nat):Prop:=∀b,H.get id=some b->h id=some b
def qA(h:Nat->Option ef)(H:an)(v:Value):Prop:=∀id,vV v=some id->z2 h H id
theorem v1(ah:il σ B h w)(i:z2 h H id)(d:o2 H id off n=some l)(j:σ id=some (c,o,s)):
  ∃bN,(loadCells ⟨c,o+off,none⟩ n).run P w=.ok bN.toArray w/\bt σ l bN/\l.length=n:=by
 rw[vY]at d;cases f:H.get id with
 | none=>simp_all
 | some b=>
  rw[f]at d;simp only[ta,kH,lk,f0]at d;cases g:beq ((b.cells.drop off).take n).length n with
  | false=>simp_all
  | true=>
   rw[g]at d;cases d;have k:=eq_of_beq_eq_true g;obtain⟨bC,p,bJ,e,q,r,t,u,v,x,m,_⟩:=ah.e7 id b (i b f);have a:off+n<=b.cells.length\/n=0:=aT
   refine⟨(e.toList.drop (o+off)).take n,?_,?_,k⟩;rcases a with a|rfl
   grind[Zr]
   rfl;rcases a with a|rfl
   have:=(m.drop off).take n
   grind[drop_take,drop_drop]
   simp;exact .nil
theorem ZJ(ah:il σ B h w)(e:z2 h H id)(a:vQ H id off=some v)(f:σ id=some (c,o,s)):
  ∃ap,(load ⟨c,o+off,none⟩).run P w=.ok ap w/\bV σ v ap:=by
 unfold vQ at a;cases d:H.get id with
 | none=>simp_all
 | some b=>
  rw[d]at a;simp only[ru]at a;obtain⟨bC,j,bJ,g,k,l,m,n,p,q,i,_⟩:=ah.e7 id b (e b d);obtain⟨ap,r,t⟩:=i.get off v a
  simp_all[getElem?_take,World.cell?]
theorem MT(a:bt σ l bN)(h1:hH cS l=true):∀v∈bN,v.oneCell'=true:=by
 rw[ia]at h1;induction l generalizing bN with
 | nil=>rw[a.nN];simp
 | cons x r d=>
  obtain⟨bA,bQ,rfl,c,e⟩:=a.k7;rw[all_cons,Bool.and_eq_true]at h1;intro v b;rcases List.mem_cons.1 b with rfl|b
  cases c<;>first|rfl|(exact absurd h1.1 (by simp[cS]))
  grind
theorem CH(ah:il σ B h w)(m:z2 h H id)(d:rm H id off vs=some E)(p:bt σ vs pI)(e:σ id=some (c,o,s))(n:Nat):
  ∃aE,(storeCells ⟨c,o+off,none⟩ pI).run P w=.ok () aE/\jH B σ h n w σ (fo h H E) n aE/\E.next=H.next:=by
 rw[CB]at d;cases f:H.get id with
 | none=>simp_all
 | some b=>
  rw[f]at d;simp only at d;split at d;rename_i r;cases d;simp only[Bool.and_eq_true,an.lY,f0,kI,decide_eq_true_eq]at r;obtain⟨⟨t,_⟩,g,z⟩:=r;obtain⟨bC,I,bJ,k,u,v,x,y,J,K,L,C⟩:=ah.e7 id b (m b f);rw[e]at x;cases x;have F:=p.length;have q:=GE (P:=P) c (o+off) u v pI 0 k w y U (MT p z) (fun j M=>(C t).2 j U);refine⟨_,q,?_,rfl⟩;refine Zt ah id off b (m b f) t vs pI p g c o s k u v e y _ ?_;intro i cA l;simp only[gM,kH,lk,f0]at l;unfold fo at l;by_cases aB:i=id;subst aB;left;refine⟨rfl,?_⟩;have a:(an.set H i (some ⟨b.cells.take off++(vs++b.cells.drop (off+vs.length)),b.wr⟩)).get i=some ⟨b.cells.take off++(vs++b.cells.drop (off+vs.length)),b.wr⟩:=Tr.MH _ _ _ b f;split at l;rename_i N;rw[m b f]at l
  simp_all
  simp_all
  right;refine⟨aB,?_⟩;have a:(an.set H id (some ⟨b.cells.take off++(vs++b.cells.drop (off+vs.length)),b.wr⟩)).get i=H.get i:=Tr.jZ _ _ _ _ aB
  simp_all
  grind
theorem MU(ah:il σ B h w)(p:qA h H a)(x:bV σ a dP)(d:(lE P t).f a H=some (v,E)):
  E=H/\∃ap,(Instr.loadAt t dP).run P w=.ok ap w/\bV σ v ap:=by
 unfold lE at d;cases q:m4 P t with
 | none=>simp_all
 | some b=>
  cases r:fQ P t with
  | none=>simp_all
  | some n=>
   have m:∀id off g,a=.pointer (some ⟨id,off,g⟩)->g=none/\∃c o s,dP=.pointer (some ⟨c,o+off,none⟩)/\σ id=some (c,o,s):=by intro id off g e;subst e;exact x.zZ
   cases b with
   | true=>
    simp only[q,r,jo]at d;cases a<;>simp only at d<;>try cases d
    rename_i i;cases i with
    | none=>cases d
    | some i=>
     obtain⟨id,off,g⟩:=i;obtain⟨rfl,c,o,s,rfl,j⟩:=m id off g rfl;simp only at d;cases k:o2 H id off n with
     | none=>simp_all
     | some l=>
      rw[k]at d;cases d;obtain⟨C,y,z,_⟩:=v1 (P:=P) ah (p id rfl) k j
      simp_all[bV.sg,Instr.loadAt,Instr.sureAddr,loadVar,GF,l7]
   | false=>
    simp only[q,r,db]at d;cases a<;>simp only at d<;>try cases d
    rename_i i;cases i with
    | none=>cases d
    | some i=>
     obtain⟨id,off,g⟩:=i;obtain⟨rfl,c,o,s,rfl,j⟩:=m id off g rfl;simp only at d;cases k:vQ H id off with
     | none=>rw[k]at d;cases d
     | some u=>
      rw[k]at d;cases d;obtain⟨ap,y,z⟩:=ZJ (P:=P) ah (p id rfl) k j
      simp_all[Instr.loadAt,Instr.sureAddr,loadVar,GF]
theorem ZK(m:fQ P t=some n)(ah:il σ B h w)(j:qA h H a)(k:bV σ a dP)(f:bV σ x bA)(b:d9 n a x H=some (v,E)):
  v=undef/\E.next=H.next/\∃aE,(Instr.storeAt t dP bA).run P w=.ok () aE/\jH B σ h H.next w σ (fo h H E) E.next aE:=by
 unfold d9 at b;cases a<;>simp only at b<;>try cases b
 rename_i d;cases d with
 | none=>cases b
 | some d=>
  obtain⟨id,off,p⟩:=d;obtain⟨rfl,c,o,s,rfl,e⟩:=k.zZ;simp only at b;split at b;cases g:rm H id off (es x)with
  | none=>simp_all
  | some q=>
   rw[g]at b;cases b;obtain⟨aE,r,u,l⟩:=CH (P:=P) ah (j id rfl) g f.cells e H.next;refine⟨rfl,l,aE,?_,a1⟩;have i:bA.cells.size=n:=by
    have:=f.cells.length
    simp_all[f0]
   simp_all[Instr.storeAt,Instr.sureAddr,storeVar,l7]
  grind
theorem CI(d:Nat->Option (Nat×Nat)):∀(lB:List (Nat×Value)) (b:List (Nat×Value)) (c:aj) (a:Array Value) (l:aj),
  bt σ c a.toList->lB.map (·.1)=b.map (·.1)->bt σ (lB.map (·.2)) (b.map (·.2))->rn d c lB=some l->
  ∃bN,Instr.fill d a b=some bN/\bt σ l bN.toList
 | [],b,c,a,l,j,f,_,g=>by
  cases b with
  | nil=>cases g;exact⟨a,rfl,j⟩
  | cons _ _=>cases f
 |(i,v)::di,b,c,a,l,j,f,h2,g=>by
  cases b with
  | nil=>cases f
  | cons p h=>
   obtain⟨F,ap⟩:=p;simp only[map_cons,List.cons.injEq]at f;obtain⟨rfl,f⟩:=f;obtain⟨q,s,e,t,u⟩:=h2.k7;cases e;unfold rn at g;unfold Instr.fill;cases w:d i with
   | none=>simp_all
   | some y=>
    obtain⟨off,m⟩:=y;rw[w]at g;simp only at g⊢;split at g;rename_i o;simp only[f0,kI,Bool.and_eq_true,decide_eq_true_eq]at o;have H:=eq_of_beq_eq_true o.1;have n:=t.cells;have z:=n.length;have I:=j.length;rw[if_neg aT];refine CI d di h _ _ l ?_ f u g;rw[gM,gM,kH,lk,f0];have key:(ap.cells.zipIdx.foldl (fun ag (x:Value×Nat)=>ag.setIfInBounds (off+x.2) x.1) a).toList=a.toList.take off++(ap.cells.toList++a.toList.drop (off+ap.cells.toList.length)):=by
     rw[<- Array.foldl_toList,Array.toList_zipIdx];have B:∀(vs:aj) (k:Nat) (ag:Array Value),off+k+vs.length<=ag.size->
       ((vs.zipIdx k).foldl (fun ag (x:Value×Nat)=>ag.setIfInBounds (off+x.2) x.1) ag).toList=ag.toList.take (off+k)++vs++ag.toList.drop (off+k+vs.length):=by
      intro vs;induction vs with
      | nil=>simp_all
      | cons x r C=>intro k ag J;simp only[zipIdx_cons,foldl_cons];have aB:=C (k+1) (ag.setIfInBounds (off+k) x) aT;rw[aB,Array.toList_setIfInBounds];have e:=list_seg_step ag.toList (off+k) x r U;omega
     simp_all
    rw[key,<- z];exact(j.take off).append (n.append (j.drop (off+(es v).length)))
    grind
theorem ZL(l:List (Nat×Operand))(T:aj):(qs l T).map (·.1)=l.map (·.1)/\(qs l T).map (·.2)=l.map fun p=>(da p.2).g T:=by
 induction l with
 | nil=>exact⟨rfl,rfl⟩
 | cons p r a=>obtain⟨i,o⟩:=p;exact⟨by show i::_=_;grind,by show(da o).g T::_=_;grind⟩
theorem ZM(a:Array Field)(h:∀x∈a.toList,∃n,f x=some (x.offset,n)/\∀w,(sizeOf x.type).run P w=.ok n w)(w:World):
  ∃c:Array (Nat×Nat),(a.mapM fun(x:Field)=>(do pure (x.offset,<- sizeOf x.type):Sem (Nat×Nat))).run P w=.ok c w/\∀i:Nat,c[i]?=(a.toList[i]?).bind f:=by
 have e:∀(l:List Field),(∀x∈l,∃n,f x=some (x.offset,n)/\∀w,(sizeOf x.type).run P w=.ok n w)->
   ∃d:List (Nat×Nat),(l.mapM fun(x:Field)=>(do pure (x.offset,<- sizeOf x.type):Sem (Nat×Nat))).run P w=.ok d w/\∀i:Nat,d[i]?=(l[i]?).bind f:=by
  intro l;induction l with
  | nil=>simp_all
  | cons x r j=>
   intro g;obtain⟨n,k,m⟩:=g x aW;obtain⟨d,p,q⟩:=j fun y o=>g y (by simp[o])
   refine⟨(x.offset,n)::d,?_,?_⟩
   simp_all
   grind
 obtain⟨d,k,m⟩:=e a.toList h
 simp_all[Array.mapM_eq_mapM_toList]
theorem CJ:z.cells.toList=es z:=by cases z<;>rfl
theorem ZN{a:List (Nat×Value)}(c:(eg P t).f lB=some v)(h1:lB.map (·.1)=a.map (·.1))(h2:bt σ (lB.map (·.2)) (a.map (·.2)))(w:World):
  ∃ap,(Instr.build t a.toArray).run P w=.ok ap w/\bV σ v ap:=by
 unfold eg at c;cases o:gy P t with
 | none=>simp_all
 | some z=>
  obtain⟨B,q⟩:=pK o w;have fF:bt σ (es z) z.cells.toList:=(rv q).cells;rw[o]at c;cases r:P.underlying t with
  | none=>simp_all
  | some s=>
   rw[r]at c;cases s<;>simp only at c<;>try cases c
   case struct b=>
    split at c
    ·rename_i g;rw[ia,all_eq_true]at g;simp only at c
     let f:Field->Option (Nat×Nat):=fun x=>(fQ P x.type).map fun n=>(x.offset,n)
     obtain⟨d,b5,ax⟩:=ZM b (f:=f) (fun x u=>by
      have:=g x u;cases ah:fQ P x.type with
      | none=>simp_all
      | some n=>exact⟨n,aT,fun w=>l7 ah w⟩) w
     have k:(fun i:Nat=>d[i]?)=Cf P b.toList:=by grind[Cf,ru]
     cases j:rn (Cf P b.toList) (es z) lB with
     | none=>rw[j]at c;cases c
     | some l=>
      rw[j]at c;cases c;obtain⟨m,p,y⟩:=CI _ lB a _ _ l fF h1 h2 j;rw[<- k]at p;refine⟨.agg m,?_,.agg _ _ U .nil⟩
      simp_all[Instr.build,run_underlying]
    grind
   case array n e=>
    cases ah:fQ P e with
    | none=>simp_all
    | some h=>
     rw[ah]at c;simp only at c;cases j:rn (fun i=>some (i*h,h)) (es z) lB with
     | none=>rw[j]at c;cases c
     | some l=>
      rw[j]at c;cases c;obtain⟨m,p,y⟩:=CI _ lB a _ _ l fF h1 h2 j;refine⟨.agg m,?_,.agg _ _ U .nil⟩
      simp_all[Instr.build,run_underlying,l7]
theorem CK(n:Nat)(z:Array Value):((Array.range (n*z.size)).map fun i=>z[i%z.size]!).toList=fr n z.toList:=by
 have a:∀(n:Nat),(range (n*z.size)).map (fun i=>z[i%z.size]!)=fr n z.toList:=by
  intro n;induction n with
  | zero=>simp[fr]
  | succ n b=>
   rw[show fr (n+1) z.toList=z.toList++fr n z.toList by show gx _ _=_;rw[gM]];rw[succ_mul,Nat.add_comm,range_add,map_append,map_map]
   congr 1
   apply ext_getElem?
   grind[mod_eq_of_lt]
   simp_all[map_congr_left]
 simp_all
theorem bt.fr(n:Nat)(a:bt σ l bN):bt σ (fr n l) (fr n bN):=by
 induction n with
 | zero=>exact .nil
 | succ n b=>
  have e:∀m:aj,Ab.fr (n+1) m=m++Ab.fr n m:=fun m=>by show gx _ _=_;rw[gM]
  rw[e,e];exact a.append b
theorem CL(n:Nat)(l:aj):(fr n l).length=n*l.length:=by
 induction n with
 | zero=>simp[fr]
 | succ n a=>grind[fr,gM]
end
end Go.Ab
namespace Go.Ab
open Go
variable{B H E P c bC ag bI h l bN len n lB di t v w σ}
section
theorem ZO{P:Program}(h:(P.info? t).map (·.bytes)=some n):∃i,P.info? t=some i/\i.bytes=n:=a1
theorem xC(ah:il σ B h w)(c7:B<=w.heap.size)(b:∀i,H.next<=i->i<E.next->σ i=none)(f:bt σ ag bI)(t:TypeId)(a:Nat×Nat)
  (d:a.1<=a.2/\∀i,i<bI.length+di.length->(a.1<=i&&i<a.2)=false) (k:Nat) (e:oi ag len c H=some (v,E)):
  ∃ τ id,v=.slice (some ⟨id,0,none⟩) len c/\τ id=some (w.heap.size,0,bI.length+di.length)/\
   jH B σ h H.next w τ (fo h H E) E.next {w with heap:=w.heap.push (.cells (bI++di).toArray t a),drawn:=k}:=by
 cases e
 simp_all[MQ]
theorem ZP(ah:il σ B h w)(c7:B<=w.heap.size)(r:∀i,H.next<=i->i<E.next->σ i=none)(M:bV σ l bN)(N:bV σ c bC)
  (b:(lD P t).f l c H=some (v,E)):fE P B (Instr.makeSlice t bN bC) w σ h H v E:=by
 unfold lD at b;split at b
 case h_2=>cases b
 case h_1 e S=>
 split at b
 case h_2=>cases b
 case h_1 size z bytes s u x=>
 split at b
 case isFalse=>cases b
 case isTrue L=>
 simp only[Bool.and_eq_true,m8,f0,decide_eq_true_eq]at L;obtain⟨y,g⟩:=L;have g:=eq_of_beq_eq_true g;unfold o4 at b;cases l<;>simp only at b<;>try cases b
 rename_i k n;cases c<;>simp only at b<;>try cases b
 rename_i j1 m;rw[M.l6,N.l6];split at b
 case isFalse=>cases b
 case isTrue i2=>
 split at b
 case isFalse=>cases b
 case isTrue mP=>
 split at b
 case isFalse=>cases b
 case isTrue C=>
 simp only[Bool.and_eq_true,kI,decide_eq_true_eq]at C;obtain⟨C,a4⟩:=C;obtain⟨nO,aB,F⟩:=ZO x;obtain⟨V,W⟩:=pK u w;have fF:bt σ (es z) z.cells.toList:=(rv W).cells;have X:z.cells.size=size:=by grind[CJ]
 have j:bt σ (fr n.toNat (es z)) (fr n.toNat z.cells.toList):=fF.fr _;have I:IntKind.i64.wrap n=n:=by rw[IntKind.wrap_i64];omega
 have J:IntKind.i64.wrap m=m:=by rw[IntKind.wrap_i64];omega
 have xD:n.toNat<=m.toNat:=U
 obtain⟨d,a2⟩:∃d,m.toNat=n.toNat+d:=⟨m.toNat-n.toNat,U⟩;have q:fr m.toNat z.cells.toList=fr n.toNat z.cells.toList++fr d z.cells.toList:=by
  rw[a2];generalize n.toNat=a;induction a with
  | zero=>simp[fr]
  | succ a v2=>grind[fr,gM]
 obtain⟨τ,id,rfl,o,hg⟩:=xC ah c7 r j e (0,0) aW w.drawn b;have p:(fr n.toNat z.cells.toList).length+(fr d z.cells.toList).length=m.toNat*size:=by simp_all[CL,Nat.add_mul]
 rw[p]at o;refine⟨.slice (some ⟨w.heap.size,0,none⟩) n.toNat m.toNat,_,τ,?_,?_,hg⟩
 ·have GH:((bytes:Int)*m>2^48)=False:=aT
  have K:((decide (m<0)||decide ((bytes:Int)*m>2^48)||decide (n<0)||decide (n>m))=true)=False:=aT
  simp only[Instr.makeSlice,Sem.run_bind,run_underlying S,Result.andThen_ok,asInt,asIntOf,Sem.run_pure,typeInfo,run_program,aB,I,J,F];rw[Sem.run_ite];rw[if_neg (fun hh=>aT)];simp only[Sem.run_bind,run_askRoom,Result.andThen_ok,l7 s];by_cases c8:m.toNat*size=0
  ·simp_all[Array.eq_empty_of_size_eq_zero,newRow]
  ·rw[if_neg c8];simp only[Sem.run_bind,V,Result.andThen_ok,Sem.run_pure,newRow,run_newObj]
   grind[CK,Array.range]
 ·rw[ow];by_cases hnm':n=m
  ·subst hnm';simp only[decide_true,cond];exact MS o y (Nat.le_refl _)
  simp_all[xB]
theorem MV(b:Nat->Option (Nat×Nat)):∀(lB:List (Nat×Value)) (a l:aj),rn b a lB=some l->l.length=a.length
 | [],a,l,c=>by cases c;rfl
 |(i,v)::di,a,l,c=>by
  unfold rn at c;cases e:b i with
  | none=>simp_all
  | some f=>
   obtain⟨off,d⟩:=f;rw[e]at c;simp only at c;split at c;rename_i g;simp only[kI,decide_eq_true_eq]at g;have:=MV b di _ l c
   grind[gM,kH,lk,f0]
   grind
theorem ZQ{a:List (Nat×Value)}(ah:il σ B h w)(c7:B<=w.heap.size)(d:∀i,H.next<=i->i<E.next->σ i=none)
  (b:(gY P t len).f lB H=some (v,E)) (h1:lB.map (·.1)=a.map (·.1)) (h2:bt σ (lB.map (·.2)) (a.map (·.2))):
  fE P B (Instr.buildSlice t len a.toArray) w σ h H v E:=by
 unfold gY at b;split at b
 case h_2=>cases b
 case h_1 e r=>
 split at b
 case h_2=>cases b
 case h_1 size g=>
 split at b
 case h_2=>cases b
 case h_1 z j=>
 split at b
 case h_2=>cases b
 case h_1 o=>
 simp only[Bool.and_eq_true,m8,f0,decide_eq_true_eq]at o;obtain⟨s,k,c⟩:=o;have c:=eq_of_beq_eq_true c;obtain⟨y,u⟩:=pK j w;have fF:bt σ (es z) z.cells.toList:=(rv u).cells;have l:z.cells.size=size:=by grind[CJ]
 simp only[Ch]at b;cases m:rn (fun i=>some (i*size,size)) (fr len (es z)) lB with
 | none=>simp_all
 | some ag=>
  rw[m]at b;have p:=CK len z.cells;rw[l]at p;obtain⟨C,F,q⟩:=CI _ lB a (fr len (es z)) ((Array.range (len*size)).map fun i=>z.cells[i%size]!) ag (by rw[p];exact fF.fr len) h1 h2 m;obtain⟨τ,id,rfl,n,x⟩:=xC (di:=[]) ah c7 d q e (0,0) aW w.drawn b;refine⟨.slice (some ⟨w.heap.size,0,none⟩) len len,_,τ,?_,MS n k (by rw[<- q.length,MV _ _ _ _ m,CL,c];simp),x⟩;simp only[Instr.buildSlice,Sem.run_bind,run_underlying r,Result.andThen_ok,l7 g];by_cases I:len*size=0
  ·simp_all[Array.eq_empty_of_size_eq_zero,newRow]
  simp_all[newRow]
end
end Go.Ab
namespace Go.Ab
open Go
variable{B H P h l m n size w x bA σ}
section
theorem ZR(ah:il σ B h w)(id:Nat)(b z:ef)(r:h id=some b)(t:b.wr=true)(c o s:Nat)(m d:Array Value)(d4:TypeId)(C:Nat×Nat)(h1:σ id=some (c,o,s))
  (h2:w.heap[c]?=some (.cells m d4 C)) (F:d.size=m.size) (u:o+z.cells.length<=s) (hv:bt σ z.cells ((d.toList.drop o).take z.cells.length))
  (aH:Nat->Option ef) (v:∀i cA,aH i=some cA->(i=id/\cA=z)\/(i≠id/\h i=some cA)):
  jH B σ h n w σ aH n (w.setRow c d):=by
 obtain⟨bC,p,bJ,W,Zu,Zv,X,dw,gO,kt,lH,m7⟩:=ah.e7 id b r;rw[h1]at X;cases X;rw[h2]at dw;cases dw;have sh:∀j ft,j≠id->h j=some ft->∀bC p bJ,σ j=some (bC,p,bJ)->bC≠c:=fun j ft f H bC p bJ l e=>ah.jG id j b ft (Ne.symm f) r H t c o s bC p bJ h1 l e.symm
 refine⟨⟨?_,?_,?_⟩,Nat.le_refl _,fun _ _=>rfl,fun _ _ h=>h,rfl,rfl,rfl,aW,?_,?_⟩;intro i cA g;rcases v i cA g with⟨rfl,rfl⟩|⟨f,a⟩
 exact⟨c,o,s,d,d4,C,h1,setRow_heap w c m _ d4 C h2,F.trans gO,u,hv,fun _=>m7 t⟩;obtain⟨I,cP,J,x,K,L,M,fC,g3,g4,g5,pJ⟩:=ah.e7 i cA a;refine⟨I,cP,J,x,K,L,M,?_,g3,g4,g5,pJ⟩
 grind[setRow_other]
 intro i cA g q;rcases v i cA g with⟨rfl,rfl⟩|⟨f,a⟩
 exact ah.own i b r t;exact ah.own i cA a q;intro i j gN ft f aB H N nP bP cr I cP J M fC;rcases v i gN aB with⟨MK,rfl⟩|⟨MW,S⟩
 grind
 rcases v j ft H with⟨zX,rfl⟩|⟨av6,V⟩
 grind
 exact ah.jG i j gN ft f S V N nP bP cr I cP J M fC;intro k fD y;refine setRow_other w c k _ ?_;intro e;subst e;exact y ⟨id,b,o,s,r,t,h1⟩;rintro k ⟨i,cA,p,bJ,g,q,l⟩ _;rcases v i cA g with⟨rfl,rfl⟩|⟨f,a⟩
 exact⟨i,b,p,bJ,r,t,l⟩;exact⟨i,cA,p,bJ,a,q,l⟩
theorem ZS(ah:il σ B h w)(id k off:Nat)(b:ef)(F:h id=some b)(H:b.wr=true)(c o s:Nat)(h1:σ id=some (c,o,s))(fD:σ k=none)(av7:off<=b.cells.length)
  (aH:Nat->Option ef) (y:∀i cA,aH i=some cA->(i=k/\cA=⟨b.cells.drop off,true⟩)\/(i≠k/\i≠id/\h i=some cA)):
  jH B σ h k w (fun i=>if i=k then some (c,o+off,s)else σ i) aH (k+1) w:=by
 let τ:eH:=fun i=>if i=k then some (c,o+off,s)else σ i
 have f:∀i x,σ i=some x->τ i=some x:=fun i x ey=>aT
 have g:τ k=some (c,o+off,s):=if_pos rfl;have m:∀i,i≠k->τ i=σ i:=fun i a=>if_neg a
 obtain⟨bC,L,bJ,M,d4,mQ,cU,dw,gO,kt,lH,m7⟩:=ah.e7 id b F;rw[h1]at cU;cases cU;refine⟨⟨?_,?_,?_⟩,U,fun i aB=>if_neg U,f,rfl,rfl,rfl,Nat.le_refl _,fun _ _ _=>rfl,?_⟩;intro i cA n;rcases y i cA n with⟨rfl,rfl⟩|⟨a,_,d⟩
 refine⟨c,o+off,s,M,d4,mQ,g,dw,gO,aT,?_,fun _=>m7 H⟩;have:=(lH.drop off).mono f
 grind[drop_take,drop_drop]
 obtain⟨z,cP,C,I,N,S,p,l,g3,g4,g5,pJ⟩:=ah.e7 i cA d;exact⟨z,cP,C,I,N,S,(m i a).trans p,l,g3,g4,g5.mono f,pJ⟩;intro i cA n t;rcases y i cA n with⟨rfl,rfl⟩|⟨a,_,d⟩
 obtain⟨z,cP,C,p,l⟩:=ah.own id b F H
 simp_all
 obtain⟨z,cP,C,p,l⟩:=ah.own i cA d t
 simp_all
 intro i j gN ft a aB jI V nP bP cr z cP C p l;have p:τ i=some (nP,bP,cr):=p;have l:τ j=some (z,cP,C):=l;rcases y i gN aB with⟨W,rfl⟩|⟨X,J,K⟩
 rcases y j ft jI with⟨zX,rfl⟩|⟨u,r,v⟩
 omega;rw[W,g]at p;cases p;rw[m j u]at l;exact ah.jG id j b ft (Ne.symm r) F v H _ _ _ _ _ _ h1 l;rw[m i X]at p;rcases y j ft jI with⟨zX,rfl⟩|⟨u,r,v⟩
 rw[zX,g]at l;cases l;intro e;exact ah.jG id i b gN (Ne.symm J) F K H _ _ _ _ _ _ h1 p e.symm;rw[m j u]at l;exact ah.jG i j gN ft a K v V nP bP cr z cP C p l;rintro m9 ⟨i,cA,L,bJ,n,t,q⟩ _;have q:τ i=some (m9,L,bJ):=q;rcases y i cA n with⟨W,rfl⟩|⟨a,_,d⟩
 rw[W,g]at q;cases q;exact⟨id,b,o,s,F,H,h1⟩;exact⟨i,cA,L,bJ,d,t,(m i a).symm.trans q⟩
theorem CM(b:bV σ x bA)(a:kr x=some n):(Builtin.lenOf bA).run P w=.ok n w:=by
 unfold kr at a;cases b<;>simp only at a<;>cases a
 ·rename_i s _;show Result.ok s.size w=_
  simp_all[f0]
 all_goals rfl
theorem CN(ah:il σ B h w)(q:qA h H x)(r:bV σ x bA)(C:kr x=some m)(F:n<=m)(f:m5 H size n x=some l):
  ∃bN,(Builtin.firstCells size n bA).run P w=.ok bN.toArray w/\bt σ l bN/\l.length=n*size:=by
 unfold m5 at f;cases r<;>simp only at f<;>try cases f
 case string s _=>
  split at f
  ·rename_i j;cases f;have t:s.data.toList.length=m:=by grind[kr,f0]
   refine⟨(s.data.toList.take n).map r9,?_,by rw[kH];exact bt.MF .u8 (fun b:UInt8=>((b.toNat:Nat):Int)) _,?_⟩
   ·show Result.ok ((s.extract 0 n).data.map fun b=>Value.int .u8 b.toNat) w=_
    congr 1
    apply Array.ext';simp;rfl
   simp_all[kH]
  grind
 case jq _=>
  have:n=0:=by grind[kr]
  subst this;exact⟨[],rfl,.nil,aW⟩
 case l3 id off len g c o s a i u d _=>
  split at f
  ·simp_all[Builtin.firstCells,loadCells,loadCellsFrom]
  ·have v:n≠0:=fun e=>a1
   have d:=(d.resolve_left (by grind[kr])).1;subst d;obtain⟨bN,j,k,p⟩:=v1 ah (q id rfl) f i;exact⟨bN,j,k,p⟩
 case lG id off len g y c o s a i u z d _=>
  split at f
  ·simp_all[Builtin.firstCells,loadCells,loadCellsFrom]
  ·have v:n≠0:=fun e=>a1
   have d:a=⟨c,o+off,none⟩:=by grind[kr]
   subst d;obtain⟨bN,j,k,p⟩:=v1 ah (q id rfl) f i;exact⟨bN,j,k,p⟩
end
end Go.Ab
namespace Go.Ab
open Go
variable{B H E P ag e h i id n s bJ k3 size d4 v w aE x bA k4 z σ}
section
theorem GI(z:Array Value)(n:Nat):(Builtin.zeroCells z n).toList.length=n*z.size:=by simp[Builtin.zeroCells]
theorem GJ(t:P.underlying k3=some (.slice e))(C:vM P k4=true)(aB:P.info? e=some i)(u:gy P e=some z)
  (m:z.cells.size=i.size) (mw:Option Addr) (len cap n:Nat) (x:Value) (old ci:aj) (f:(Builtin.lenOf x).run P w=.ok n w) (g:cap<len+n) (b:tc (len+n) i.bytes=true)
  (GK:(Builtin.firstCells i.size len (.slice mw len cap)).run P {w with drawn:=w.drawn+1}=.ok old.toArray {w with drawn:=w.drawn+1}) (h:(Builtin.firstCells i.size n x).run P {w with drawn:=w.drawn+1}=.ok ci.toArray {w with drawn:=w.drawn+1}):
  ∃(di:aj) (c:Nat),len+n<=c/\di.length=(c-(len+n))*i.size/\(Builtin.append_ #[k3,k4] d4 #[.slice mw len cap,x]).run P w=
   .ok (.slice (some ⟨w.heap.size,0,none⟩) (len+n) c) {w with heap:=w.heap.push (.cells (old++ci++di).toArray e (0,0)),drawn:=w.drawn+1}:=by
 obtain⟨v,_⟩:=pK u {w with drawn:=w.drawn+1};simp only[tc,Bool.and_eq_true,kI,decide_eq_true_eq]at b;obtain⟨F,H⟩:=b
 let c:=(len+n)+(w.tape w.drawn (.appendCap (len+n) cap e))%(2^63-(len+n))
 refine⟨(Builtin.zeroCells z.cells (c-(len+n))).toList,c,U,by rw[GI,m],?_⟩;have o:∃d,P.underlying k4=some d/\(match d with|.int _=>true|_=>false)=false:=by grind[vM]
 obtain⟨y,p,j⟩:=o;have q:(typeInfo e).run P w=.ok i w:=by simp[typeInfo,aB]
 have r:(sizeOf e).run P w=.ok i.size w:=by simp_all[sizeOf]
 have s:¬Builtin.nextslicecap (len+n) cap*i.bytes>2^48:=by have:=nextslicecap_le g;have I:=mul_le_mul_right i.bytes this;omega
 have k:¬(((len+n:Nat):Int)>IntKind.i64.max/\(False\/i.bytes=0)):=by
  have e:IntKind.i64.max=9223372036854775807:=bT
  omega
 have B:(Question.appendCap (len+n) cap e).forced=false:=rfl;have l:(Question.appendCap (len+n) cap e).cut (w.tape w.drawn (.appendCap (len+n) cap e))=c:=rfl;simp only[Builtin.append_,getElem?_toArray,getElem?_cons_zero,getElem?_cons_succ,Sem.run_bind,run_underlying t,run_underlying p,Result.andThen_ok,r,Sem.run_pure];cases y<;>simp only[]at j<;>try cases j
 all_goals
  simp only[Sem.run_bind,Result.andThen_ok,Bool.false_eq_true,if_false,f];rw[Sem.run_ite,if_neg U];simp only[Sem.run_bind,q,Result.andThen_ok,Sem.run_ite];rw[if_neg k,if_neg s];simp only[run_choose,B,l,Bool.false_eq_true,if_false,Result.andThen_ok,Sem.run_pure];simp only[typeInfo,aB,Sem.run_bind,run_program,Result.andThen_ok,Sem.run_pure,run_askRoom,GK,h,v,Bool.not_false,if_true,newRow,run_newObj]
  congr 2
  apply congrArg (fun a=>w.heap.push (Obj.cells a e (0,0)));apply Array.ext';simp
theorem GL(k:P.underlying k3=some (.slice e))(m:vM P k4=true)(aB:fQ P e=some size)(a:Addr)(len cap n:Nat)(x:Value)(ci:aj)
  (b:(Builtin.lenOf x).run P w=.ok n w) (c:len+n<=cap) (f:(Builtin.firstCells size n x).run P w=.ok ci.toArray w) (h:(storeCells (a.add (len*size)) ci).run P w=.ok () aE):
  (Builtin.append_ #[k3,k4] d4 #[.slice (some a) len cap,x]).run P w=.ok (.slice (some a) (len+n) cap) aE:=by
 have i:∃d,P.underlying k4=some d/\(match d with|.int _=>true|_=>false)=false:=by grind[vM]
 obtain⟨l,j,g⟩:=i;simp only[Builtin.append_,getElem?_toArray,getElem?_cons_zero,getElem?_cons_succ,Sem.run_bind,run_underlying k,run_underlying j,Result.andThen_ok,l7 aB,Sem.run_pure];cases l<;>simp only[]at g<;>try cases g
 all_goals
  simp only[Sem.run_bind,Result.andThen_ok,Bool.false_eq_true,if_false,b];rw[Sem.run_ite,if_pos c];simp only[Sem.run_bind,Bool.not_false,if_true,f,Result.andThen_ok,h,Sem.run_pure]
theorem ZT(h:P.underlying k3=some (.slice e))(j:vM P k4=true)(aB:fQ P e=some size)(x:Value)(ci:aj)
  (a:(Builtin.lenOf x).run P w=.ok 0 w) (b:(Builtin.firstCells size 0 x).run P w=.ok ci.toArray w):
  (Builtin.append_ #[k3,k4] d4 #[.slice none 0 0,x]).run P w=.ok (.slice none 0 0) w:=by
 have f:∃d,P.underlying k4=some d/\(match d with|.int _=>true|_=>false)=false:=by grind[vM]
 obtain⟨i,g,c⟩:=f;simp only[Builtin.append_,getElem?_toArray,getElem?_cons_zero,getElem?_cons_succ,Sem.run_bind,run_underlying h,run_underlying g,Result.andThen_ok,l7 aB,Sem.run_pure];cases i<;>simp only[]at c<;>try cases c
 all_goals
  simp only[Sem.run_bind,Result.andThen_ok,Bool.false_eq_true,if_false,a];rw[Sem.run_ite,if_pos U];simp only[Sem.run_bind,Bool.not_false,if_true,b,Result.andThen_ok,Sem.run_pure]
theorem ZU(ah:il σ B h w)(e:σ H.next=none)(f:id≠H.next)(k:H.get id≠none)(i:Nat)(b:ef)
  (a:fo h H ⟨(H.t.set id none).set H.next (some ⟨ag,true⟩),succ H.next,H.cX,H.c5⟩ i=some b):(i=H.next/\b=⟨ag,true⟩)\/(i≠H.next/\i≠id/\h i=some b):=by
 have l:h H.next=none:=by
  cases hh:h H.next with
  | none=>rfl
  | some b=>obtain⟨c,o,s,_,_,_,g,_⟩:=ah.e7 _ _ hh;simp_all
 unfold fo at a;by_cases aB:i=H.next;split at a
 simp_all
 rcases Tr.xy _ _ _ _ _ a with⟨_,m⟩|⟨g,_⟩
 simp_all
 omega;right;have j:(an.get ⟨(H.t.set id none).set H.next (some ⟨ag,true⟩),succ H.next,H.cX,H.c5⟩ i)=(H.t.set id none).get i:=Tr.jZ _ _ _ _ aB;rw[j]at a;by_cases d:i=id
 simp_all[Tr.uA]
 rw[Tr.jZ _ _ _ _ d]at a;have n:H.t.get i=H.get i:=rfl
 simp_all
theorem ZV(ah:il σ B h w)(id:Nat)(b:ef)(p:h id=some b)(L:Nat):jH B σ h n w σ (fun j=>if j=id then some ⟨b.cells.take L,b.wr⟩else h j) n w:=by
 have ag:∀j cA,(if j=id then some (⟨b.cells.take L,b.wr⟩:ef)else h j)=some cA->∃d,h j=some d/\d.wr=cA.wr:=aT
 refine⟨⟨fun j cA a=>?_,fun j cA a f=>?_,fun i j gN ft l q a f=>?_⟩,Nat.le_refl _,fun _ _=>rfl,fun _ _ h=>h,rfl,rfl,rfl,Nat.le_refl _,fun _ _ _=>rfl,fun c ⟨j,cA,o,s,a,f,r⟩ _=>?_⟩;split at a;rename_i e;cases a;subst e;obtain⟨c,o,s,m,t,u,v,x,y,I,z,C⟩:=ah.e7 j b p;refine⟨c,o,s,m,t,u,v,x,y,?_,?_,C⟩
 grind
 have:=z.take L
 grind
 exact ah.e7 j cA a;obtain⟨d,g,k⟩:=ag j cA a;exact ah.own j d g (k.trans f);obtain⟨d,g,k⟩:=ag i gN q;obtain⟨F,H,_⟩:=ag j ft a;exact ah.jG i j d F l g H (k.trans f);obtain⟨d,g,k⟩:=ag j cA a;exact⟨j,d,o,s,g,k.trans f,r⟩
theorem wrap_i64(a:0<=n)(h:n<=9223372036854775807):IntKind.i64.wrap n=n:=by
 have:hk .i64 n=IntKind.i64.wrap n:=qz .i64 n;rw[<- this];unfold hk qo;cases n with
 | ofNat m=>grind[m8]
 | negSucc m=>omega
theorem ZW(s:P.underlying k3=some (.slice e))(y:xn P k4=true)(aB:P.info? e=some i)(t:gy P e=some z)
  (h:z.cells.size=i.size) (u:0<i.size) (n:Nat) (q:0<n) (b:tc n i.bytes=true):
  ∃(di:aj) (c:Nat),n<=c/\di.length=(c-n)*i.size/\(Builtin.append_ #[k3,k4] d4 #[.slice none 0 0,.int .i64 n]).run P w=
   .ok (.slice (some ⟨w.heap.size,0,none⟩) n c) {w with heap:=w.heap.push (.cells ((Builtin.zeroCells z.cells n).toList++di).toArray e (0,0)),drawn:=w.drawn+1}:=by
 obtain⟨r,_⟩:=pK t {w with drawn:=w.drawn+1};simp only[tc,Bool.and_eq_true,kI,decide_eq_true_eq]at b;obtain⟨B,C⟩:=b
 let c:=n+(w.tape w.drawn (.appendCap n 0 e))%(2^63-n)
 refine⟨(Builtin.zeroCells z.cells (c-n)).toList,c,U,by rw[GI,h],?_⟩;have j:∃k,P.underlying k4=some (.int k):=by grind[xn]
 obtain⟨k,l⟩:=j;have d:(typeInfo e).run P w=.ok i w:=by simp[typeInfo,aB]
 have m:(sizeOf e).run P w=.ok i.size w:=by simp_all[sizeOf]
 have o:¬Builtin.nextslicecap n 0*i.bytes>2^48:=by have:=nextslicecap_le q;have F:=mul_le_mul_right i.bytes this;omega
 have ll:¬((n:Int)*(i.bytes:Int)>2^48):=aT
 have f:¬(((n:Nat):Int)>IntKind.i64.max/\(True\/i.bytes=0)):=by
  have e:IntKind.i64.max=9223372036854775807:=bT
  omega
 have v:IntKind.i64.wrap (n:Int)=n:=wrap_i64 U U;have x:(Question.appendCap n 0 e).forced=false:=rfl;have g:(Question.appendCap n 0 e).cut (w.tape w.drawn (.appendCap n 0 e))=c:=rfl;have p:¬n*i.size=0:=by have:=Nat.mul_pos q u;omega
 simp only[Builtin.append_,getElem?_toArray,getElem?_cons_zero,getElem?_cons_succ,Sem.run_bind,run_underlying s,run_underlying l,Result.andThen_ok,m,Sem.run_pure,asInt];simp only[if_true,asIntOf,Sem.run_bind,Sem.run_pure,Result.andThen_ok,v];rw[Sem.run_ite,if_neg U];simp only[Sem.run_bind,d,Result.andThen_ok];rw[Sem.run_ite,if_neg ll];simp only[Sem.run_bind,Sem.run_pure,Result.andThen_ok,Int.toNat_natCast,Nat.zero_add];rw[Sem.run_ite,if_neg U];simp only[Sem.run_bind,d,Result.andThen_ok,Sem.run_ite];rw[if_neg f,if_neg o];simp only[run_choose,x,g,Bool.false_eq_true,if_false,Result.andThen_ok,Sem.run_pure];simp only[typeInfo,aB,Sem.run_bind,run_program,Result.andThen_ok,Sem.run_pure,run_askRoom,r,Bool.not_true,if_false,Bool.false_eq_true,newRow,run_newObj,Builtin.firstCells];rw[if_neg p];simp only[Result.andThen_ok,r]
 congr 2
 apply congrArg (fun a=>w.heap.push (Obj.cells a e (0,0)))
 simp_all
theorem ZX(f:P.underlying k3=some (.slice e))(h:xn P k4=true)(aB:P.info? e=some i):
  (Builtin.append_ #[k3,k4] d4 #[.slice none 0 0,.int .i64 ((0:Nat):Int)]).run P w=.ok (.slice none 0 0) w:=by
 have a:∃k,P.underlying k4=some (.int k):=by grind[xn]
 obtain⟨k,b⟩:=a;have c:(typeInfo e).run P w=.ok i w:=by simp[typeInfo,aB]
 have d:(sizeOf e).run P w=.ok i.size w:=by simp_all[sizeOf]
 have g:IntKind.i64.wrap ((0:Nat):Int)=((0:Nat):Int):=wrap_i64 U U;simp only[Builtin.append_,getElem?_toArray,getElem?_cons_zero,getElem?_cons_succ,Sem.run_bind,run_underlying f,run_underlying b,Result.andThen_ok,d,Sem.run_pure,asInt];simp only[if_true,asIntOf,Sem.run_bind,Sem.run_pure,Result.andThen_ok,g];rw[Sem.run_ite,if_neg U];simp only[Sem.run_bind,c,Result.andThen_ok];rw[Sem.run_ite,if_neg U];simp only[Sem.run_bind,Sem.run_pure,Result.andThen_ok,Int.toNat_natCast,Nat.zero_add]
 simp_all
theorem ZY(ah:il σ B h w)(c7:B<=w.heap.size)(l:∀i,H.next<=i->i<E.next->σ i=none)(o:xn P k4=true)
  (p:bV σ s bJ) (q:bV σ x bA) (b:(xm P k3).f [s,x] H=some (v,E)):fE P B (Builtin.append_ #[k3,k4] d4 #[bJ,bA]) w σ h H v E:=by
 unfold xm at b;split at b
 case h_2=>cases b
 case h_1 e S=>
 split at b
 case h_2=>cases b
 case h_1 i V=>
 split at b
 case h_2=>cases b
 case h_1 z J=>
 split at b
 case h_2=>cases b
 case h_1 K=>
 simp only[Bool.and_eq_true,m8,f0,decide_eq_true_eq]at K;obtain⟨L,g⟩:=K;have g:=eq_of_beq_eq_true g;have j:z.cells.size=i.size:=by grind[CJ]
 simp only[kb]at b;unfold Cj at b;split at b
 case h_2=>cases b
 case h_1 a len c=>
 split at b
 case h_1=>cases b
 case h_2=>
 split at b
 case h_2=>cases b
 case h_1 k n=>
 split at b
 case h_2=>cases b
 case h_1=>
 split at b
 case h_2=>cases b
 case h_1 M=>
 rw[Bool.and_eq_true,Bool.and_eq_true]at M;obtain⟨W,r,t⟩:=M;obtain rfl:=eq_of_beq_eq_true r;obtain rfl:=eq_of_beq_eq_true t;have c8:0<=n:=by simp_all[i0]
 obtain⟨m,rfl⟩:∃m:Nat,n=m:=⟨n.toNat,U⟩;obtain rfl:bJ=.slice none 0 0:=by cases p;rfl
 obtain rfl:bA=.int .i64 m:=by cases q;rfl
 split at b
 case h_1 y=>grind[eq_of_beq_eq_true,fE.pure,ZX]
 case h_2 y=>
  have y:0<m:=aT
  split at b
  case h_2=>cases b
  case h_1 d=>
  obtain⟨N,h0,eA,fC,g3⟩:=ZW S o V J j L m y d;obtain⟨_,C⟩:=pK J w;have F:bt σ (fr m (es z)) (Builtin.zeroCells z.cells m).toList:=by
   have cU:(Builtin.zeroCells z.cells m).toList=fr m z.cells.toList:=by grind[Builtin.zeroCells,CK]
   rw[cU];exact(rv C).cells.fr m
  obtain⟨τ,id,rfl,I,hg⟩:=xC ah c7 l F e (0,0) aW (w.drawn+1) b;refine⟨_,_,τ,g3,?_,hg⟩;refine xB I L eA ?_;rw[fC,GI,j,<- Nat.add_mul]
  simp_all
theorem ZZ(ah:il σ B h w)(c7:B<=w.heap.size)(v6:∀i,H.next<=i->i<E.next->σ i=none)(ek:qA h H s)(xE:qA h H x)
  (z6:bV σ s bJ) (GM:bV σ x bA) (g:(xl P [k3,k4]).f [s,x] H=some (v,E)):fE P B (Builtin.append_ #[k3,k4] d4 #[bJ,bA]) w σ h H v E:=by
 unfold xl at g;simp only at g;split at g
 case h_2=>cases g
 case h_1 e l8=>
 split at g
 case h_2=>cases g
 case h_1 i aB=>
 split at g
 case h_2=>cases g
 case h_1 z nQ=>
 split at g
 case h_2=>cases g
 case h_1 iM=>
 simp only[Bool.and_eq_true,m8,f0,decide_eq_true_eq]at iM;obtain⟨⟨jJ,v7⟩,M⟩:=iM;have v7:=eq_of_beq_eq_true v7;have GN:z.cells.size=i.size:=by grind[CJ]
 have lI:fQ P e=some i.size:=by simp[fQ,aB]
 simp only[kb,dj]at g;split at g
 case h_2=>cases g
 case h_1 n eZ=>
 split at g
 case h_2=>cases g
 case h_1 N o7=>
 have GO:il σ B h {w with drawn:=w.drawn+1}:=⟨ah.e7,ah.own,ah.jG⟩;obtain⟨d,f1,gm,xF⟩:=CN (P:=P) ah xE GM eZ (Nat.le_refl _) o7;obtain⟨I,ox,jr,xG⟩:=CN (P:=P) GO xE GM eZ (Nat.le_refl _) o7;have S:=CM (P:=P) (w:=w) GM eZ;have Z0:d.length=n*i.size:=by rw[<- gm.length];exact xF
 have GP:I.length=n*i.size:=by rw[<- jr.length];exact xG
 unfold pF at g;cases z6<;>simp only at g<;>try cases g
 case jq _=>
  split at g
  ·rename_i J;cases g;have J:=eq_of_beq_eq_true J;subst J;exact fE.pure ah ⟨_,ZT l8 M lI bA d S f1,.jq .nil⟩
  ·rename_i J;have J:n≠0:=fun e=>a1
   split at g
   ·rename_i y;obtain⟨di,h0,eA,fC,g3⟩:=GJ (P:=P) (w:=w) (d4:=d4) l8 M aB nQ GN none 0 0 n bA [] I S U a1 rfl ox;obtain⟨τ,id,rfl,z7,hg⟩:=xC (di:=di) ah c7 v6 jr e (0,0) aW (w.drawn+1) g;refine⟨_,_,τ,g3,?_,a1⟩;rw[Nat.zero_add]at*;refine xB z7 jJ eA ?_;rw[fC,GP,<- Nat.add_mul]
    simp_all
   grind
 case l3 id off len C c o cY a K v8 l _=>
  split at g
  ·rename_i J;cases g;have J:=eq_of_beq_eq_true J;subst J;refine fE.pure ah ⟨_,?_,.l3 id off len C c o cY a K v8 l .nil⟩;have GQ:d=[]:=length_eq_zero_iff.1 U;subst GQ;exact GL (w:=w) l8 M lI a len len 0 bA [] S U f1 rfl
  ·rename_i J;have J:n≠0:=fun e=>a1
   split at g
   ·rename_i y;split at g
    case isFalse fR=>grind[eq_of_beq_eq_true]
    case isTrue=>
    unfold uo at g;split at g
    case h_2=>cases g
    case h_1 old W=>
    have V:∃m,(Builtin.firstCells i.size len (.slice (some a) len len)).run P {w with drawn:=w.drawn+1}=.ok m.toArray {w with drawn:=w.drawn+1}/\bt σ old m/\old.length=len*i.size:=by
     split at W
     ·rename_i X;cases W;have X:=eq_of_beq_eq_true X
      simp_all[Builtin.firstCells,loadCells,loadCellsFrom]
     ·rename_i X;have X:len≠0:=fun e=>a1
      have l:a=⟨c,o+off,none⟩:=(l.resolve_left X).1;subst l;obtain⟨bN,bO,q2,fu⟩:=v1 (P:=P) GO (ek id rfl) W K;exact⟨bN,bO,q2,fu⟩
    obtain⟨m,bP,cP,fN⟩:=V;obtain⟨di,h0,eA,fC,g3⟩:=GJ (P:=P) (w:=w) (d4:=d4) l8 M aB nQ GN (some a) len len n bA m I S U y bP ox;rw[gM]at g;obtain⟨τ,MX,rfl,z7,hg⟩:=xC (di:=di) ah c7 v6 (cP.append jr) e (0,0) aW (w.drawn+1) g;refine⟨_,_,τ,g3,?_,hg⟩;refine xB z7 jJ eA ?_;have:=cP.length;rw[fC,length_append,GP,<- this,fN,<- Nat.add_mul,<- Nat.add_mul]
    simp_all
   grind
 case lG id off len C F c o cY a K v8 CO l _=>
  split at g
  ·rename_i J;cases g;have J:=eq_of_beq_eq_true J;subst J;refine fE.pure ah ⟨_,?_,.lG id off len C F c o cY a K v8 CO l .nil⟩;have GQ:d=[]:=length_eq_zero_iff.1 U;subst GQ;exact GL (w:=w) l8 M lI a len F 0 bA [] S U f1 rfl
  ·rename_i J;have J:n≠0:=fun e=>a1
   split at g
   case isFalse=>cases g
   case isTrue y=>
   split at g
   case isTrue fR=>grind[eq_of_beq_eq_true]
   case isFalse=>
   split at g
   case isFalse=>cases g
   case isTrue MY=>
   have MY:=eq_of_beq_eq_true MY;obtain rfl:C=i.size:=U
   unfold vK at g;cases hg:H.get id with
   | none=>simp_all
   | some b=>
    rw[hg]at g;simp only at g;split at g
    case h_2=>cases g
    case h_1 iM=>
    simp only[Bool.and_eq_true,an.lY,f0]at iM;obtain⟨⟨fp,_⟩,GR,aaa⟩:=iM;rw[kI]at GR;have GR:=of_decide_eq_true GR;have d5:=ek id rfl b hg;have z8:=ZV (n:=H.next) ah id b d5 (off+len*i.size);simp only[oi,an.ci,an.set,gM,lk,kH]at g;cases g;have xH:(b.cells.drop off).take (len*i.size)=(b.cells.take (off+len*i.size)).drop off:=aT
    have aab:(b.cells.take (off+len*i.size)).length=off+len*i.size:=a1
    have uC:∀j cA,j≠id->h j=some cA->(if j=id then some (⟨b.cells.take (off+len*i.size),b.wr⟩:ef)else h j)=some cA:=fun j cA o7 jI=>a1
    generalize aac:b.cells.take (off+len*i.size)=p at*;obtain⟨bC,l1,bJ,L,MZ,mQ,cU,dw,gO,kt,lH,m7⟩:=z8.fM.e7 id ⟨p,b.wr⟩ (if_pos rfl);rw[K]at cU;cases cU;simp only at kt lH;have fD:σ H.next=none:=v6 H.next (Nat.le_refl _) (lt_succ_self _);have M0:id≠H.next:=fun e=>a1
    have Na:=fun j cA=>ZU (ag:=p.drop off++N) (h:=h) (H:=H) (id:=id) ah fD M0 aT j cA
    by_cases uD:len+n<=F
    ·-- in gK
     have l:a=⟨c,o+off,none⟩/\o+off+F*i.size<=cY:=by
      rcases l with hh|⟨_,h2⟩
      ·exact hh
      ·omega
     obtain⟨rfl,av8⟩:=l;have av9:o+p.length+d.length<=L.size:=by
      rw[Z0,aab,gO];have:=mul_le_mul_right i.size uD
      grind
     have aad:∀u∈d,u.oneCell'=true:=MT gm aaa;have lm:=GE (P:=P) c (o+off+len*i.size) MZ mQ d 0 L w dw U aad (fun j jI=>(m7 fp).2 j U)
     let aC:ef:=⟨p++N,b.wr⟩
     let r:=(L.toList.take (o+off+len*i.size+0)++d++L.toList.drop (o+off+len*i.size+0+d.length)).toArray
     have Nb:jH B σ (fun j=>if j=id then some (⟨p,b.wr⟩:ef)else h j) H.next w σ (fun j=>if j=id then some aC else h j) H.next (w.setRow c r):=by
      refine ZR z8.fM id ⟨p,b.wr⟩ aC (if_pos rfl) fp c o cY L r MZ mQ K dw ?_ ?_ ?_ _ ?_
      ·simp[r];omega
      ·grind
      ·have hlen:aC.cells.length=p.length+d.length:=aT
       have hm:(r.toList.drop o).take aC.cells.length=(L.toList.drop o).take p.length++d:=by
        rw[hlen];apply ext_getElem?;intro k;have hL:o+off+len*i.size+0=o+p.length:=U
        simp only[r,hL,getElem?_take,getElem?_drop,getElem?_append,length_append,length_take,length_drop,Array.length_toList];have i2:min (o+p.length) L.size=o+p.length:=U
        have mP:min p.length (L.size-o)=p.length:=U
        simp only[i2,mP];by_cases i5:k<p.length
        ·simp[i5,show k<p.length+d.length by omega,show o+k<o+p.length+d.length by omega,show o+k<o+p.length by omega]
        ·by_cases j1:k<p.length+d.length
         ·simp only[i5,j1,if_true,if_false,show o+k<o+p.length+d.length by omega,show¬o+k<o+p.length by omega]
          congr 1;omega
         grind
       rw[hm];exact lH.append gm
      ·intro j cA jI;by_cases Nc:j=id
       ·simp_all
       simp_all
     have aae:jH B σ (fun j=>if j=id then some aC else h j) H.next (w.setRow c r) (fun j=>if j=H.next then some (c,o+off,cY)else σ j) (fo h H ⟨(H.t.set id none).set H.next (some ⟨p.drop off++N,true⟩),succ H.next,H.cX,H.c5⟩) (H.next+1) (w.setRow c r):=by
      refine ZS Nb.fM id H.next off aC aW fp c o cY K fD aT _ ?_;intro j cA jI;rcases Na j cA jI with⟨bO,q2⟩|⟨bO,q2,fu⟩
      ·left;refine⟨bO,q2.trans ?_⟩;simp only[aC]
       simp_all[drop_append_of_le_length]
      simp_all
     refine⟨.slice (some ⟨c,o+off,none⟩) (len+n) F,_,_,?_,?_,z8.trans (Nb.trans aae)⟩
     ·refine GL (w:=w) l8 M lI ⟨c,o+off,none⟩ len F n bA d S uD f1 ?_
      grind[xz]
     ·exact .lG H.next 0 (len+n) i.size F c (o+off) cY _ (if_pos rfl) jJ uD (.inl ⟨aW,U⟩) .nil
    ·-- a N array
     have V:∃m,(Builtin.firstCells i.size len (.slice (some a) len F)).run P {w with drawn:=w.drawn+1}=.ok m.toArray {w with drawn:=w.drawn+1}/\bt σ (p.drop off) m:=by
      rcases l with⟨rfl,_⟩|⟨rfl,rfl⟩
      ·have:o2 H id off (len*i.size)=some (p.drop off):=by simp_all[vY,ta,kH,lk,f0]
       obtain⟨bN,bO,q2,fu⟩:=v1 (P:=P) GO (ek id rfl) this K;exact⟨bN,bO,q2⟩
      simp_all[Builtin.firstCells,loadCells,loadCellsFrom,drop_eq_nil_of_le]
     obtain⟨m,bP,cP⟩:=V;have uE:(p.drop off).length=len*i.size:=by simp;omega
     obtain⟨di,h0,eA,fC,g3⟩:=GJ (P:=P) (w:=w) (d4:=d4) l8 M aB nQ GN (some a) len F n bA m I S U y bP ox;have aaf:=MJ ah c7 H.next fD (p.drop off++N) (m++I) di e (0,0) (cP.append jr) aW (w.drawn+1) (fo h H ⟨(H.t.set id none).set H.next (some ⟨p.drop off++N,true⟩),succ H.next,H.cX,H.c5⟩)
      (fun j cA jI=>by
       rcases Na j cA jI with q|⟨bO,_,fu⟩
       ·grind
       simp_all)
     refine⟨_,_,_,g3,?_,aaf⟩;refine xB (if_pos rfl) jJ eA ?_;have:=cP.length;rw[fC,length_append,GP,<- this,uE,<- Nat.add_mul,<- Nat.add_mul]
     simp_all
end
end Go.Ab
namespace Go.Ab
open Go
variable{B H E d dr Cl h k3 t d4 v x bA}{P:Program}{σ:eH}{w:World}
section
theorem aag(ah:il σ B h w)(I:qA h H d)(J:qA h H x)(N:bV σ d dr)(i:bV σ x bA)
  (g:(up P [Cl,k3]).f [d,x] H=some (v,E)):fE P B (Builtin.copy_ #[Cl,k3] d4 #[dr,bA]) w σ h H v E:=by
 unfold up at g;simp only at g;split at g
 case h_2=>cases g
 case h_1 e K=>
 split at g
 case h_2=>cases g
 case h_1 m n=>
 split at g
 case isFalse=>cases g
 case isTrue jJ=>
 simp only[kb,nJ]at g;cases N<;>simp only at g<;>try cases g
 case jq _=>
  split at g
  case h_2=>cases g
  case h_1 am l=>
  split at g
  case isFalse fR=>simp at fR
  case isTrue fR=>
  cases g;have j:=CM (P:=P) (w:=w) i l;have L:Nat.min am 0=0:=Nat.min_zero am;refine fE.pure ah ⟨.int .i64 0,?_,.int⟩;have p:∃r,(Builtin.firstCells m 0 bA).run P w=.ok r w:=by
   cases i<;>simp only[kr]at l<;>try cases l
   ·exact⟨_,rfl⟩
   ·exact⟨_,rfl⟩
   ·simp_all[Builtin.firstCells,loadCells,loadCellsFrom]
   simp_all[Builtin.firstCells,loadCells,loadCellsFrom]
  obtain⟨r,p⟩:=p;simp only[Builtin.copy_,getElem?_toArray,getElem?_cons_zero,getElem?_cons_succ,Sem.run_bind,run_underlying K,Result.andThen_ok,j,l7 n,L,p,Sem.run_pure];rfl
 case l3 id off len u c o s a y S t _=>
  split at g
  case h_2=>cases g
  case h_1 am l=>
  have j:=CM (P:=P) (w:=w) i l;split at g
  case isTrue q=>
   cases g;have q:=eq_of_beq_eq_true q;have p:∃r:aj,(Builtin.firstCells m 0 bA).run P w=.ok r.toArray w/\r.length=0:=by
    cases i<;>simp only[kr]at l<;>try cases l
    ·rename_i V _ _;exact⟨[],by show Result.ok ((V.extract 0 0).data.map fun b=>Value.int .u8 b.toNat) w=_;simp_all,rfl⟩
    ·exact⟨[],rfl,rfl⟩
    ·simp_all[Builtin.firstCells,loadCells,loadCellsFrom]
    simp_all[Builtin.firstCells,loadCells,loadCellsFrom]
   obtain⟨r,p,z⟩:=p;obtain rfl:=length_eq_zero_iff.1 z;refine fE.pure ah ⟨.int .i64 0,?_,.int⟩;simp only[Builtin.copy_,getElem?_toArray,getElem?_cons_zero,getElem?_cons_succ,Sem.run_bind,run_underlying K,Result.andThen_ok,j,l7 n,q,p,Sem.run_pure];rfl
  case isFalse q=>
   have q:Nat.min am len≠0:=fun e=>a1
   split at g
   case h_2=>cases g
   case h_1 W C=>
   split at g
   case h_2=>cases g
   case h_1 dc X=>
   cases g;have k:Nat.min am len<=am:=Nat.min_le_left _ _;have F:Nat.min am len<=len:=Nat.min_le_right _ _;obtain⟨M,f1,gm,xF⟩:=CN (P:=P) ah J i l k C;obtain rfl:a=⟨c,o+off,none⟩:=(t.resolve_left U).1;obtain⟨aE,aM,ca,sj⟩:=CH (P:=P) ah (I id rfl) X gm y H.next;refine⟨.int .i64 (Nat.min am len),aE,σ,?_,.int,a1⟩;simp only[Builtin.copy_,getElem?_toArray,getElem?_cons_zero,getElem?_cons_succ,Sem.run_bind,run_underlying K,Result.andThen_ok,j,l7 n,f1,Sem.run_pure,aM];rfl
 case lG id off len u cap c o s a y S CO t _=>
  split at g
  case h_2=>cases g
  case h_1 am l=>
  have j:=CM (P:=P) (w:=w) i l;split at g
  case isTrue q=>
   cases g;have q:=eq_of_beq_eq_true q;have p:∃r:aj,(Builtin.firstCells m 0 bA).run P w=.ok r.toArray w/\r.length=0:=by
    cases i<;>simp only[kr]at l<;>try cases l
    ·rename_i V _ _;exact⟨[],by show Result.ok ((V.extract 0 0).data.map fun b=>Value.int .u8 b.toNat) w=_;simp_all,rfl⟩
    ·exact⟨[],rfl,rfl⟩
    ·simp_all[Builtin.firstCells,loadCells,loadCellsFrom]
    simp_all[Builtin.firstCells,loadCells,loadCellsFrom]
   obtain⟨r,p,z⟩:=p;obtain rfl:=length_eq_zero_iff.1 z;refine fE.pure ah ⟨.int .i64 0,?_,.int⟩;simp only[Builtin.copy_,getElem?_toArray,getElem?_cons_zero,getElem?_cons_succ,Sem.run_bind,run_underlying K,Result.andThen_ok,j,l7 n,q,p,Sem.run_pure];rfl
  case isFalse q=>
   have q:Nat.min am len≠0:=fun e=>a1
   split at g
   case h_2=>cases g
   case h_1 W C=>
   split at g
   case h_2=>cases g
   case h_1 dc X=>
   cases g;have k:Nat.min am len<=am:=Nat.min_le_left _ _;have F:Nat.min am len<=len:=Nat.min_le_right _ _;obtain⟨M,f1,gm,xF⟩:=CN (P:=P) ah J i l k C;obtain rfl:a=⟨c,o+off,none⟩:=a1
   obtain⟨aE,aM,ca,sj⟩:=CH (P:=P) ah (I id rfl) X gm y H.next;refine⟨.int .i64 (Nat.min am len),aE,σ,?_,.int,a1⟩;simp only[Builtin.copy_,getElem?_toArray,getElem?_cons_zero,getElem?_cons_succ,Sem.run_bind,run_underlying K,Result.andThen_ok,j,l7 n,f1,Sem.run_pure,aM];rfl
theorem aah(ah:il σ B h w)(l:qA h H x)(r:bV σ x bA)(b:(zK P t).f x H=some (v,E)):
  fE P B (Builtin.clear_ #[t] d4 #[bA]) w σ h H v E:=by
 unfold zK at b;split at b
 case h_2=>cases b
 case h_1 e p=>
 split at b
 case h_2=>cases b
 case h_1 z F=>
 obtain⟨y,I⟩:=pK F w;have fF:bt σ (es z) z.cells.toList:=(rv I).cells;have J:∀n,(Builtin.zeroCells z.cells n).toList=fr n z.cells.toList:=fun n=>by grind[Builtin.zeroCells,CK]
 simp only[uq]at b;have wr:∀(id off len:Nat) (c o s:Nat) (C:σ id=some (c,o,s)) (k:an),z2 h H id->rm H id off (fr len (es z))=some k->
   ∃aE,(storeCells ⟨c,o+off,none⟩ (Builtin.zeroCells z.cells len).toList).run P w=.ok () aE/\jH B σ h H.next w σ (fo h H k) k.next aE:=by
  intro id off len c o s C k K q;obtain⟨aE,aM,ca,N⟩:=CH (P:=P) ah K q (fF.fr len) C H.next
  simp_all
 cases r<;>simp only at b<;>try cases b
 case jq _=>exact fE.pure ah ⟨.tuple #[],by simp[Builtin.clear_,run_underlying p],.tuple _ _ .nil .nil⟩
 case l3 id off len i c o s a j u g _=>
  split at b
  ·rename_i d;cases b;have d:=eq_of_beq_eq_true d;subst d;exact fE.pure ah ⟨.tuple #[],by simp[Builtin.clear_,run_underlying p],.tuple _ _ .nil .nil⟩
  ·rename_i d;have d:len≠0:=fun e=>a1
   split at b
   case h_2=>cases b
   case h_1 k q=>
   cases b;obtain rfl:a=⟨c,o+off,none⟩:=(g.resolve_left d).1;obtain⟨aE,aM,ca⟩:=wr id off len c o s j _ (l id rfl) q;refine⟨.tuple #[],aE,σ,?_,.tuple _ _ .nil .nil,ca⟩;obtain⟨m,rfl⟩:∃m,len=m+1:=⟨len-1,U⟩;simp[Builtin.clear_,run_underlying p,y,aM]
 case lG id off len i L c o s a j u M g _=>
  split at b
  ·rename_i d;cases b;have d:=eq_of_beq_eq_true d;subst d;exact fE.pure ah ⟨.tuple #[],by simp[Builtin.clear_,run_underlying p],.tuple _ _ .nil .nil⟩
  ·rename_i d;have d:len≠0:=fun e=>a1
   split at b
   case h_2=>cases b
   case h_1 k q=>
   cases b;obtain rfl:a=⟨c,o+off,none⟩:=a1
   obtain⟨aE,aM,ca⟩:=wr id off len c o s j _ (l id rfl) q;refine⟨.tuple #[],aE,σ,?_,.tuple _ _ .nil .nil,ca⟩;obtain⟨m,rfl⟩:∃m,len=m+1:=⟨len-1,U⟩;simp[Builtin.clear_,run_underlying p,y,aM]
theorem aai(b:bV σ x bA)(a:(zJ P t).f x H=some (v,E)):
  E=H/\∃ap,(Builtin.len_ #[t] d4 #[bA]).run P w=.ok ap w/\bV σ v ap:=by
 unfold zJ at a;cases c:P.underlying t with
 | none=>simp_all
 | some d=>
  rw[c]at a;cases d<;>simp only at a<;>first|(cases a;done)|skip
  case array n e=>cases a;exact⟨rfl,_,by simp[Builtin.len_,run_underlying c];rfl,.int⟩
  case string=>
   cases b<;>simp only at a<;>cases a;rename_i s _;refine⟨rfl,.int .i64 (Int.ofNat (e6 s.data.toList)),?_,.int⟩;have:e6 s.data.toList=s.size:=by simp_all[f0]
   simp_all[Builtin.len_,run_underlying,goInt]
  case slice e=>
   cases b<;>simp only at a<;>cases a
   all_goals exact⟨rfl,_,by simp[Builtin.len_,run_underlying c,goInt],.int⟩
theorem Nd:∀(l bN:aj) (x:Int) (k:IntKind) (v:Value),bt σ l bN->Cm x l k=some v->(foldlM Builtin.min2 (.int k x) bN).run P w=.ok v w/\bV σ v v
 | [],bN,x,k,v,b,a=>by rw[b.nN];cases a;exact⟨rfl,.int⟩
 | y::r,bN,x,k,v,b,a=>by
  obtain⟨dN,bQ,rfl,d,c⟩:=b.k7;unfold Cm at a;cases y<;>simp only at a<;>try cases a
  rename_i f n;rw[d.l6];have g:=Nd r bQ _ k v c a;have e:(Builtin.min2 (.int k x) (.int f n)).run P w=.ok (.int k (cond (hq x n) x n)) w:=by
   simp only[Builtin.min2,Sem.run_pure]
   congr 2
   rw[i0]
   grind
  simp_all
theorem Nf:∀(l bN:aj) (x:Int) (k:IntKind) (v:Value),bt σ l bN->Cn x l k=some v->(foldlM Builtin.max2 (.int k x) bN).run P w=.ok v w/\bV σ v v
 | [],bN,x,k,v,b,a=>by rw[b.nN];cases a;exact⟨rfl,.int⟩
 | y::r,bN,x,k,v,b,a=>by
  obtain⟨dN,bQ,rfl,d,c⟩:=b.k7;unfold Cn at a;cases y<;>simp only at a<;>try cases a
  rename_i f n;rw[d.l6];have g:=Nf r bQ _ k v c a;have e:(Builtin.max2 (.int k x) (.int f n)).run P w=.ok (.int k (cond (hq n x) x n)) w:=by
   simp only[Builtin.max2,Sem.run_pure]
   congr 2
   rw[i0]
   grind
  simp_all
theorem aaj(a:hI x=some v)(h:bV σ x bA)(o:Oper)(b:Operand)(i:o.op=.nilCheck b)(g:Operand->Value)(d:g b=bA):
  (execOp g o).run P w=.ok (.value bA) w/\bV σ v bA:=by
 unfold hI at a;unfold execOp;rw[i];simp only[d];cases h<;>simp only at a<;>cases a;rename_i id off c l s j _;exact⟨rfl,.ad _ _ _ _ _ j .nil⟩;rename_i f x bA y dN e k _;exact⟨rfl,.func _ _ _ _ _ e k .nil⟩;rename_i t u m e _;exact⟨rfl,.iface _ _ _ e .nil⟩
end
end Go.Ab
namespace Go.Ab
open Go
variable{B H P dP cap wa oj h hh aB na xI l len d3 lo' m hE mx' n size t v ap w x bA y σ}
section
theorem CP(a:bV σ v ap)(b:∃k m,v=.int k m/\0<=m/\m.toNat<=y/\n=m.toNat)(w:World):(Instr.sliceBound ap y wa).run P w=.ok n w:=by
 obtain⟨k,m,rfl,c,d,rfl⟩:=b;rw[a.l6]
 simp_all[Instr.sliceBound,asIntOf]
theorem CQ(a:lC len (some v)=some n):∃k m,v=.int k m/\0<=m/\m.toNat<=len/\n=m.toNat:=by
 unfold lC at a;cases v<;>simp only at a<;>try cases a
 rw[i0,kI]at a
 grind
theorem aak(a:mo len (some v)=some n):∃k m,v=.int k m/\0<=m/\m.toNat<=len/\n=m.toNat:=by have:lC len (some v)=some n:=a;exact CQ this
inductive tj (σ:eH):Option Value->Option Value->Prop
 | none:tj σ none none
 | some {v ap:Value}:bV σ v ap->tj σ (some v) (some ap)
theorem GS(c:tj σ d3 lo')(h:tj σ aB na)(j:tj σ hE mx')(p:len<=cap)
  (h1:lC len aB=some hh) (h2:mo hh d3=some l) (b:nK hh aB hE=some oj) (w:World):
  ∃m,(Instr.sliceBounds xI len cap lo' na mx').run P w=.ok (l,hh,m) w/\l<=hh/\hh<=len/\(m=if oj then hh else cap):=by
 have a:∀wa,(match lo' with|some v=>Instr.sliceBound v hh wa|none=>(pure 0:Sem Nat)).run P w=.ok l w/\l<=hh:=by
  intro wa;cases c with
  | none=>simp[mo]at h2;subst h2;simp_all
  | some i=>grind[aak,CP]
 have f:hh<=len:=by
  cases aB with
  | none=>simp_all[lC]
  | some v=>grind[CQ]
 cases j with
 | none=>
  simp[nK]at b;subst b;refine⟨cap,?_,(a .sliceB).2,f,aW⟩;cases h with
  | none=>simp[lC]at h1;subst h1;simp only[Instr.sliceBounds,Sem.run_bind,Sem.run_pure,Result.andThen_ok,Option.isSome_none,Bool.false_eq_true,if_false];have:=(a .sliceB).1;cases c<;>simp only at this⊢ <;>(try rw[this])<;>simp_all
  | some i=>have q:=CQ h1;obtain⟨k,m,e,bO,q2,n⟩:=q;have r:=CP (P:=P) (y:=cap) (wa:=if xI then .sliceAcap else .sliceAlen) i ⟨k,m,e,bO,U,n⟩ w;simp only[Instr.sliceBounds,Sem.run_bind,Sem.run_pure,Result.andThen_ok,Option.isSome_none,Bool.false_eq_true,if_false,r];have:=(a .sliceB).1;cases c<;>simp only at this⊢ <;>(try rw[this])<;>simp_all
 | some o=>
  rename_i c3 s;unfold nK at b;simp only at b;cases c3<;>simp only at b<;>try cases b
  rename_i mk iN;cases h with
  | none=>cases b
  | some i=>
   simp only at b;split at b
   case h_2=>cases b
   case h_1 d=>
   split at b
   case h_2=>cases b
   case h_1 g=>
   cases b;rw[i0]at d;have d:=of_decide_eq_true d;have g:=eq_of_beq_eq_true g;obtain⟨k,m,e,bO,q2,n⟩:=CQ h1;refine⟨hh,?_,(a .slice3C).2,f,aW⟩;have t:=CP (P:=P) (y:=cap) (wa:=if xI then .slice3Acap else .slice3Alen) o ⟨mk,iN,rfl,d,U,g.symm⟩ w;have u:=CP (P:=P) (y:=hh) (wa:=.slice3B) i ⟨k,m,e,bO,U,n⟩ w;simp only[Instr.sliceBounds,Sem.run_bind,t,u,Result.andThen_ok,Option.isSome_some,if_true];have:=(a .slice3C).1;cases c<;>simp only at this⊢ <;>(try rw[this])<;>simp_all
theorem Ng{a:Option Addr}(n:0<size)(i:nL size a l hh oj=some v)(u:l<=hh)
  (p:m=if oj then hh else cap) (e:hh<=cap)
  (q:match a with
   | none=>dP=none/\hh=0/\cap=0
   | some a=>∃c o s,σ a.block=some (c,o,s)/\dP.isSome=true/\((hh=0/\cap=0)\/(dP=some ⟨c,o+a.off,none⟩/\o+a.off+cap*size<=s))):
  bV σ v (.slice (if m=l then dP else dP.map (·.add (l*size))) (hh-l) (m-l)):=by
 cases a with
 | none=>
  obtain⟨rfl,rfl,rfl⟩:=q;cases i;have:m=0:=a1
  subst this;have:l=0:=U
  subst this;exact .jq .nil
 | some a=>
  obtain⟨id,off,r⟩:=a;obtain⟨c,o,s,f,d,b⟩:=q;obtain⟨cA,rfl⟩:=Option.isSome_iff_exists.1 d;cases r with
  | some _=>cases i
  | none=>
   cases i;have j:∀x,(if m=l then(some cA:Option Addr)else(some cA).map (·.add x))=some (if m=l then cA else cA.add x):=fun x=>aT
   rw[j];cases oj with
   | true=>
    subst p;refine .l3 id (off+l*size) (m-l) size c o s _ f n ?_ .nil;by_cases g:m=l;omega;right;rcases b with⟨h,k⟩|⟨h,k⟩
    omega;cases h;refine⟨by grind[xz],?_⟩;have t:l*size+(m-l)*size=m*size:=by rw[<- Nat.add_mul];simp_all
    have w:=mul_le_mul_right size e
    grind
   | false=>
    subst p;refine .lG id (off+l*size) (hh-l) size (m-l) c o s _ f n U ?_ .nil;by_cases g:m=l;omega;left;rcases b with⟨h,k⟩|⟨h,k⟩
    omega;rw[if_neg g];cases h;refine⟨by grind[xz],?_⟩;have t:l*size+(m-l)*size=m*size:=by rw[<- Nat.add_mul];grind
    grind
theorem aal(ah:il σ B h w)(xE:(∃n e,P.underlying t=some (.array n e))->qA h H x)(ey:bV σ x bA)(z:tj σ d3 lo')(C:tj σ aB na)(F:tj σ hE mx')
  (d:(Co P t).f x d3 aB hE H=some v):∃ap,(Instr.sliceAt t bA lo' na mx').run P w=.ok ap w/\bV σ v ap:=by
 unfold Co at d;cases N:P.underlying t with
 | none=>simp_all
 | some k8=>
  rw[N]at d;cases k8<;>simp only at d<;>first|(cases d;done)|skip
  case string=>
   unfold zL at d;cases x<;>simp only at d<;>first|(cases d;done)|skip
   rename_i s;rw[ey.uB];cases hE with
   | some _=>cases d
   | none=>
    cases F;simp only at d;cases I:lC (e6 s.data.toList) aB with
    | none=>simp_all
    | some r=>
     rw[I]at d;simp only at d;cases M:mo r d3 with
     | none=>simp_all
     | some l=>
      rw[M]at d;cases d;have S:e6 s.data.toList=s.size:=by simp_all[f0]
      rw[S]at I;obtain⟨m,V,X,o8,wb⟩:=GS (P:=P) (xI:=false) z C .none (Nat.le_refl s.size) I M (oj:=false) rfl w;refine⟨.string (s.extract l r),?_,?_⟩
      ·simp only[Instr.sliceAt,Instr.slice,Sem.run_bind,run_underlying N,Result.andThen_ok,Option.isSome_none,Bool.false_eq_true,if_false,Sem.run_pure,V]
      ·have:(⟨(m3 (nI s.data.toList l) (r-l)).toArray⟩:ByteArray)=s.extract l r:=by
        apply ByteArray.ext;apply Array.ext'
        simp_all[kH,lk]
       rw[this];exact .string
  case slice e=>
   cases p:fQ P e with
   | none=>simp_all
   | some g=>
    rw[p]at d;simp only at d;split at d
    case h_2=>cases d
    case h_1 u=>
    rw[m8]at u;have u:=of_decide_eq_true u;simp only[hX]at d;cases x<;>simp only at d<;>first|(cases d;done)|skip
    rename_i a len c;split at d
    case h_2=>cases d
    case h_1 r I=>
    split at d
    case h_2=>cases d
    case h_1 l M=>
    split at d
    case h_2=>cases d
    case h_1 oj eh=>
    have J:∀(dP:Option Addr) (cap:Nat) (l4:Bool),bA=.slice dP len cap->len<=cap->(oj=true->l4=true)->(l4=true->oj=false->r=cap)->nL g a l r l4=some v->
      (match a with
       | none=>dP=none/\len=0/\cap=0
       | some a=>∃c o s,σ a.block=some (c,o,s)/\dP.isSome=true/\((len=0/\cap=0)\/(dP=some ⟨c,o+a.off,none⟩/\o+a.off+cap*g<=s)))->
      ∃ap,(Instr.sliceAt t bA lo' na mx').run P w=.ok ap w/\bV σ v ap:=by
     intro dP cap l4 cG K Nh GT W y;subst cG;obtain⟨m,V,X,o8,wb⟩:=GS (P:=P) (xI:=true) z C F K I M eh w;refine⟨_,?_,Ng (m:=m) (cap:=cap) (dP:=dP) u W X ?_ U ?_⟩
     ·simp only[Instr.sliceAt,Instr.slice,Sem.run_bind,run_underlying N,Result.andThen_ok,V,l7 p,Sem.run_pure]
     ·grind
     ·cases a with
      | none=>simp_all
      | some a=>grind
    cases ey
    case jq _=>
     have pL:beq 0 (2*g+1)=false:=ao
     rw[pL]at d;simp only[Bool.or_true,beq_refl]at d;exact J none 0 oj rfl (Nat.le_refl _) id (fun a b=>a1) d ⟨rfl,rfl,rfl⟩
    case l3 id off j cc o s a k v8 y _=>
     split at d
     case h_1 fR=>
      obtain rfl:j=g:=by grind[eq_of_beq_eq_true]
      refine J (some a) len (oj||beq r len) rfl (Nat.le_refl _) (fun e=>by simp[e]) (fun cU dw=>?_) d ⟨cc,o,s,k,rfl,?_⟩
      ·simp_all
      simp_all
     case h_2 fR=>
      split at d
      case h_2=>cases d
      case h_1 L=>
      simp only[Bool.or_eq_true]at L
      grind[eq_of_beq_eq_true]
    case lG id off j cap cc o s a k v8 K y _=>
     split at d
     case h_1 fR=>grind[eq_of_beq_eq_true]
     case h_2 fR=>
      split at d
      case h_2=>cases d
      case h_1 L=>
      simp only[Bool.or_eq_true]at L;obtain rfl:j=g:=by grind[eq_of_beq_eq_true]
      refine J (some a) cap oj rfl K (fun e=>e) (fun cU dw=>a1) d ⟨cc,o,s,k,rfl,?_⟩
      grind
  case array n e=>
   cases p:fQ P e with
   | none=>simp_all
   | some g=>
    rw[p]at d;simp only at d;split at d
    case h_2=>cases d
    case h_1 u=>
    rw[m8]at u;have u:=of_decide_eq_true u;simp only[qr]at d;cases x<;>simp only at d<;>first|(cases d;done)|skip
    rename_i a;cases a with
    | none=>cases d
    | some a=>
     obtain⟨id,off,cq⟩:=a;obtain⟨rfl,c,o,s,rfl,k⟩:=ey.zZ;simp only at d;split at d
     case h_1=>cases d
     case h_2 b hg=>
     split at d
     case h_1=>cases d
     case h_2 q=>
     rw[kI,f0]at q;have q:=of_decide_eq_true q;split at d
     case h_2=>cases d
     case h_1 r I=>
     split at d
     case h_2=>cases d
     case h_1 l M=>
     split at d
     case h_2=>cases d
     case h_1 oj eh=>
     obtain⟨bC,l1,bJ,sg,d4,mQ,cU,dw,gO,kt,lH,_⟩:=ah.e7 id b (xE ⟨_,_,N⟩ id rfl b hg);rw[k]at cU;cases cU;obtain⟨m,V,X,o8,wb⟩:=GS (P:=P) (xI:=false) z C F (Nat.le_refl n) I M eh w;refine⟨_,?_,Ng (m:=m) (cap:=n) (dP:=some ⟨c,o+off,none⟩) u d X ?_ o8 ⟨c,o,s,k,rfl,.inr ⟨rfl,aT⟩⟩⟩
     ·simp only[Instr.sliceAt,Instr.sureAddr,Sem.run_bind,run_underlying N,Result.andThen_ok,Sem.run_pure,V,l7 p]
      grind
     grind[eq_of_beq_eq_true]
end
end Go.Ab
namespace Go.Ab
open Go
variable{B H E P a ag bI dst f h i CR n o off ok s size qp t v w x bA σ}
section
theorem GU(e:bV σ x bA)(b:gh o x=some v):∃a,bA=.pointer (some a)/\bV σ v (.pointer (some (a.add o))):=by
 unfold gh at b;cases x<;>simp only at b<;>first|(cases b;done)|skip
 rename_i a;cases a with
 | none=>cases b
 | some a=>obtain⟨id,off,f⟩:=a;obtain⟨rfl,c,q,s,rfl,d⟩:=e.zZ;cases b;refine⟨_,rfl,?_⟩;rw[xz,Nat.add_assoc];exact .ad id (off+o) c q s d .nil
theorem aam(d:bV σ x bA)(b:(ur P s f).f x=some v)(w:World):∃ap,(Instr.fieldAt s bA f).run P w=.ok ap w/\bV σ v ap:=by
 unfold ur at b;split at b
 case h_2=>cases b
 case h_1 c h=>
 split at b
 case h_2=>cases b
 case h_1 i j=>
 split at b
 case h_1=>cases b
 case h_3=>cases b
 case h_2 n e g=>
 obtain⟨a,rfl,k⟩:=GU d b
 simp_all[Instr.fieldAt,run_underlying,Instr.sureAddr,fieldPlace,l7]
theorem Ni(a:dE n size x i=some v):∃k j,i=.int k j/\0<=j/\j.toNat<n/\gh (j.toNat*size) x=some v:=by
 unfold dE at a;cases i<;>simp only at a<;>first|(cases a;done)|skip
 rw[i0,m8]at a
 grind
theorem aan(F:bV σ x bA)(aB:bV σ i CR)(g:(Cq P t).f x i=some v)(w:World):∃ap,(Instr.indexAt t bA CR).run P w=.ok ap w/\bV σ v ap:=by
 unfold Cq at g;cases u:P.underlying t with
 | none=>simp_all
 | some H=>
  rw[u]at g;cases H<;>simp only at g<;>first|(cases g;done)|skip
  case array n e=>
   cases l:fQ P e with
   | none=>simp_all
   | some q=>
    rw[l]at g;obtain⟨k,j,rfl,I,J,y⟩:=Ni g;rw[aB.l6];obtain⟨a,rfl,z⟩:=GU F y;refine⟨_,?_,z⟩;simp only[Instr.indexAt,asIntOf,Sem.run_bind,Sem.run_pure,Result.andThen_ok,run_underlying u,Instr.sureAddr]
    simp_all[l7]
  case slice e=>
   cases l:fQ P e with
   | none=>simp_all
   | some q=>
    rw[l]at g;cases x<;>simp only at g<;>first|(cases g;done)|skip
    rename_i a n c;obtain⟨k,j,rfl,I,J,y⟩:=Ni g;rw[aB.l6];have r:∀(B:Addr) (b h:Nat),bA=.slice (some B) b h->b=n->bV σ (.pointer a) (.pointer (some B))->∃ap,(Instr.indexAt t bA (.int k j)).run P w=.ok ap w/\bV σ v ap:=by
     intro B b h K L M;subst K;subst L;obtain⟨W,N,z⟩:=GU M y;cases N;refine⟨_,?_,z⟩;simp only[Instr.indexAt,asIntOf,Sem.run_bind,Sem.run_pure,Result.andThen_ok,run_underlying u,Instr.sureAddr]
     simp_all[l7]
    cases F
    case jq _=>omega
    case l3 id off m cc o s a p C d _=>
     rcases d with rfl|⟨rfl,_⟩
     ·omega
     ·exact r _ _ _ rfl rfl (.ad _ _ _ _ _ p .nil)
    case lG id off m S cc o s a p C V d _=>
     rcases d with⟨rfl,_⟩|⟨rfl,_⟩
     ·exact r _ _ _ rfl rfl (.ad _ _ _ _ _ p .nil)
     omega
theorem Nj(a:bt σ ag bI.toList)(b:(xo P t).f ag off=some v)(w:World):
  ∃ap,(part t bI off).run P w=.ok ap w/\bV σ v ap:=by
 refine z1 a ?_ w
 grind[xo,pE]
theorem aao(o:bV σ x bA)(aB:bV σ i CR)(a:(Ct P t).f x i=some v)(w:World):∃ap,(Instr.index t bA CR).run P w=.ok ap w/\bV σ v ap:=by
 unfold Ct at a;cases q:P.underlying t with
 | none=>simp_all
 | some r=>
  rw[q]at a;cases r<;>simp only at a<;>first|(cases a;done)|skip
  case array n e=>
   cases c:fQ P e with
   | none=>simp_all
   | some p=>
    rw[c]at a;simp only[Cs]at a;cases x<;>simp only at a<;>first|(cases a;done)|skip
    cases i<;>simp only at a<;>first|(cases a;done)|skip
    rw[aB.l6];obtain⟨u,rfl,d⟩:=o.xA;rw[i0,m8]at a;split at a
    case h_2=>cases a
    case h_1 g=>
    split at a
    case h_2=>cases a
    case h_1 z=>
    obtain⟨ap,b5,ax⟩:=Nj d a w
    simp_all[Instr.index,asIntOf,run_underlying,l7]
  case string=>
   simp only[zM]at a;cases x<;>simp only at a<;>first|(cases a;done)|skip
   rename_i s;cases i<;>simp only at a<;>first|(cases a;done)|skip
   rename_i k j;rw[o.uB,aB.l6];rw[i0]at a;split at a
   case h_2=>cases a
   case h_1 g=>
   have g:=of_decide_eq_true g;rw[ru]at a;cases y:s.data.toList[j.toNat]? with
   | none=>simp_all
   | some b=>
    rw[y]at a;cases a;refine⟨.int .u8 b.toNat,?_,.int⟩;have:s[j.toNat]?=some b:=by
     have h:s.data[j.toNat]?=some b:=a1
     obtain⟨l,m⟩:=Array.getElem?_eq_some_iff.1 h;rw[getElem?_pos s j.toNat l];exact congrArg some m
    simp_all[Instr.index,asIntOf,run_underlying]
theorem aap(d:bV σ x bA)(a:(Cu P t f).f x=some v)(w:World):∃ap,(Instr.field t bA f).run P w=.ok ap w/\bV σ v ap:=by
 unfold Cu at a;split at a
 case h_2=>cases a
 case h_1 b g=>
 split at a
 case h_2=>cases a
 case h_1 h i=>
 cases x<;>simp only at a<;>first|(cases a;done)|skip
 obtain⟨e,rfl,c⟩:=d.xA;obtain⟨ap,b5,ax⟩:=Nj c a w
 simp_all[Instr.field,run_underlying,asAgg]
theorem aaq(q:bV σ x bA)(r:(vO P a ok).f x=some v)(w:World):∃ap,(Instr.typeAssert bA t a ok).run P w=.ok ap w/\bV σ v ap:=by
 unfold vO at r;have d:∀(u m:Value) (b:Bool),bV σ u m->bV σ (.tuple #[u,.bool b]) (.tuple #[m,.bool b]):=fun u m b j=>.tuple _ _ (j.cons (.bool b .nil)) .nil
 cases j:P.underlying a with
 | none=>simp_all
 | some k=>
  have h:(match k with|.interface _=>true|_=>false)=false:=by cases k<;>first|rfl|simp_all
  have c:(if ok then(⟨kF a (gy P a)⟩:Cp)else⟨us a⟩).f x=some v:=aT
  clear r;cases ok with
  | true=>
   simp only[if_true,kF]at c;cases q<;>simp only at c<;>first|(cases c;done)|skip
   case nilIface _=>
    cases l:gy P a with
    | none=>simp_all
    | some z=>rw[l]at c;cases c;obtain⟨n,o⟩:=pK l w;refine⟨.tuple #[z,.bool false],?_,d _ _ _ (rv o)⟩;cases k<;>first|(cases h;done)|(simp[Instr.typeAssert,run_underlying j,n])
   case iface u s i p _=>
    split at c
    ·rename_i g;cases c;have g:=eq_of_beq_eq_true g;subst g;refine⟨.tuple #[i,.bool true],?_,d _ _ _ p⟩;cases k<;>first|(cases h;done)|(simp[Instr.typeAssert,run_underlying j])
    ·rename_i g;have g:u≠a:=fun e=>a1
     cases l:gy P a with
     | none=>simp_all
     | some z=>rw[l]at c;cases c;obtain⟨n,o⟩:=pK l w;refine⟨.tuple #[z,.bool false],?_,d _ _ _ (rv o)⟩;cases k<;>first|(cases h;done)|(simp[Instr.typeAssert,run_underlying j,n,g])
  | false=>
   simp only[Bool.false_eq_true,if_false,us]at c;cases q<;>simp only at c<;>first|(cases c;done)|skip
   case iface u s i p _=>
    split at c
    ·rename_i g;cases c;have g:=eq_of_beq_eq_true g;subst g;refine⟨i,?_,p⟩;cases k<;>first|(cases h;done)|(simp[Instr.typeAssert,run_underlying j])
    grind
variable{σ:eH} in
theorem GV:∀(l bN:aj) (m:List UInt8),bt σ l bN->rp l=some m->bN=l
 | [],bN,m,c,_=>by rw[c.nN]
 | y::r,bN,m,c,a=>by
  obtain⟨dN,bQ,rfl,e,d⟩:=c.k7;unfold rp at a;cases y<;>simp only at a<;>first|(cases a;done)|skip
  rename_i k n;cases k<;>simp only at a<;>first|(cases a;done)|skip
  cases b:rp r with
  | none=>rw[b]at a;cases a
  | some f=>rw[e.l6,GV r bQ f d b]
variable{P:Program}{w:World} in
theorem Nk:∀(l:aj) (m:List UInt8) (b:ByteArray),rp l=some m->(forIn (m:=Sem) l b (fun c r=>(match c with
   | .int .u8 n=>(pure (ForInStep.yield (r.push (UInt8.ofNat n.toNat))):Sem (ForInStep ByteArray))
   | _=>do stuck "bytesToString: byte expected";pure (ForInStep.yield r)))).run P w= .ok ⟨(b.data.toList++m).toArray⟩ w
 | [],m,b,a=>by cases a;simp
 | y::r,m,b,a=>by
  unfold rp at a;cases y<;>simp only at a<;>first|(cases a;done)|skip
  rename_i k n;cases k<;>simp only at a<;>first|(cases a;done)|skip
  cases d:rp r with
  | none=>rw[d]at a;cases a
  | some e=>rw[d]at a;simp at a;subst a;simp only[forIn_cons,Sem.run_bind,Sem.run_pure,Result.andThen_ok];have f:=Nk r e (b.push (UInt8.ofNat n.toNat)) d;rw[f];simp
theorem aar(w:World)(a:Array Value)(t:TypeId):World.freeze {w with heap:=w.heap.push (.cells a t (0,0))} {block:=w.heap.size,off:=a.size} 1=
  {w with heap:=w.heap.push (.cells a t (a.size,a.size+1))}:=by
 unfold World.freeze;rw[if_neg U]
 congr 1
 grind
theorem aas(ah:il σ B h w)(c7:B<=w.heap.size)(v6:∀i,H.next<=i->i<E.next->σ i=none)(I:(∃e,P.underlying qp=some (.slice e))->qA h H x)(L:bV σ x bA)(d:(vJ P qp dst).f x H=some (v,E)):
  fE P B (convert qp dst bA) w σ h H v E:=by
 unfold vJ at d;cases a2:P.underlying dst with
 | none=>simp_all
 | some Nl=>
  rw[a2]at d;cases Nl<;>simp only at d<;>first|(cases d;done)|skip
  case int k=>
   split at d
   case h_2=>cases d
   case h_1 awa j=>
   simp only at d;cases x<;>simp only at d<;>first|(cases d;done)|skip
   rename_i j1 n;cases d;rw[L.l6];refine fE.pure ah ⟨.int k (hk k n),?_,.int⟩;rw[qz];simp only[convert,Sem.run_bind,run_underlying j,run_underlying a2,Result.andThen_ok];rfl
  case string=>
   cases j:P.underlying qp with
   | none=>simp_all
   | some au=>
    rw[j]at d;cases au<;>simp only at d<;>first|(cases d;done)|skip
    case string=>
     cases x<;>simp only at d<;>first|(cases d;done)|skip
     cases d;rw[L.uB];refine fE.pure ah ⟨_,?_,.string⟩
     simp_all[convert,run_underlying]
    case slice e=>
     split at d
     case isFalse=>cases d
     case isTrue y=>
     have q:P.underlying e=some (.int .u8):=by grind[xk]
     simp only[jD]at d;have step:∀(a:Addr) (len g:Nat) (l:aj) (m:List UInt8),bA=.slice (some a) len g->(loadCells a len).run P w=.ok l.toArray w->rp l=some m->
       (convert qp dst bA).run P w=.ok (.string ⟨m.toArray⟩) w:=by
      intro a len g l m M N gO;subst M;have kJ:=Nk (P:=P) (w:=w) l m ByteArray.empty gO;simp only[convert,Sem.run_bind,run_underlying j,run_underlying a2,Result.andThen_ok,run_underlying q,Conv.bytesToString,N];rw[<- Array.forIn_toList];exact congrArg (fun r:Result ByteArray=>r.andThen fun a aE=>Sem.run P (pure (Value.string a)) aE) kJ
     cases L<;>simp only at d<;>first|(cases d;done)|skip
     case jq _=>cases d;refine fE.pure ah ⟨.string ⟨#[]⟩,?_,.string⟩;simp only[convert,Sem.run_bind,run_underlying j,run_underlying a2,Result.andThen_ok,run_underlying q,Conv.bytesToString,Sem.run_pure];rfl
     case l3 id off len J c o s a t v8 C _=>
      split at d
      case isTrue u=>cases d;have u:=eq_of_beq_eq_true u;subst u;exact fE.pure ah ⟨_,step a 0 0 [] [] rfl ao rfl,.string⟩
      case isFalse u=>
       have u:len≠0:=fun e=>a1
       obtain⟨rfl,_⟩:=C.resolve_left u;split at d
       case h_2=>cases d
       case h_1 l gA=>
       split at d
       case h_2=>cases d
       case h_1 m S=>
       cases d;obtain⟨bN,bO,q2,fu⟩:=v1 ah (I ⟨_,j⟩ id rfl) gA t;rw[GV _ _ _ q2 S]at bO;exact fE.pure ah ⟨_,step _ _ _ l m rfl bO S,.string⟩
     case lG id off len J g c o s a t v8 CO C _=>
      split at d
      case isTrue u=>cases d;have u:=eq_of_beq_eq_true u;subst u;exact fE.pure ah ⟨_,step a 0 g [] [] rfl ao rfl,.string⟩
      case isFalse u=>
       have u:len≠0:=fun e=>a1
       obtain rfl:a=⟨c,o+off,none⟩:=a1
       split at d
       case h_2=>cases d
       case h_1 l gA=>
       split at d
       case h_2=>cases d
       case h_1 m S=>
       cases d;obtain⟨bN,bO,q2,fu⟩:=v1 ah (I ⟨_,j⟩ id rfl) gA t;rw[GV _ _ _ q2 S]at bO;exact fE.pure ah ⟨_,step _ _ _ l m rfl bO S,.string⟩
  case slice e=>
   cases j:P.underlying qp with
   | none=>simp_all
   | some au=>
    rw[j]at d;cases au<;>simp only at d<;>first|(cases d;done)|skip
    case string=>
     split at d
     case isFalse=>cases d
     case isTrue y=>
     have q:P.underlying e=some (.int .u8):=by grind[xk]
     simp only[vI]at d;cases x<;>simp only at d<;>first|(cases d;done)|skip
     rename_i s;rw[L.uB]
     let g:=(Question.appendCap s.size 0 e).cut (w.tape w.drawn (.appendCap s.size 0 e))
     let l9:aj:=s.data.toList.map r9
     let di:aj:=replicate (g-s.size) (.int .u8 0)
     have V:s.size<=g:=by show s.size<=s.size+_;omega
     have F:l9.length+di.length=g:=by
      have:l9.length=s.size:=by simp[l9]
      grind
     obtain⟨τ,id,rfl,X,hg⟩:=xC (bI:=l9) (di:=di) ah c7 v6 (bt.MF .u8 (fun b:UInt8=>((b.toNat:Nat):Int)) s.data.toList) e (g,g+1) ⟨aW,aT⟩ (w.drawn+1) d;refine⟨.slice (some ⟨w.heap.size,0,none⟩) s.size g,_,τ,?_,?_,hg⟩
     ·have M:(s.data.map fun b=>Value.int .u8 b.toNat)++Array.replicate (g-s.size) (.int .u8 0)=(l9++di).toArray:=by grind[r9]
      have lI:(l9++di).toArray.size=g:=a1
      have iM:(Question.appendCap s.size 0 e).forced=false:=rfl;simp only[convert,Sem.run_bind,run_underlying j,run_underlying a2,Result.andThen_ok,run_underlying q,Conv.stringToBytes,run_choose,iM,Bool.false_eq_true,if_false,Sem.run_pure,newRow,run_newObj];have aat:(s.data.map fun b=>Value.int .u8 b.toNat)++Array.replicate ((Question.appendCap s.size 0 e).cut (w.tape w.drawn (.appendCap s.size 0 e))-s.size) (.int .u8 0)=(l9++di).toArray:=M;rw[aat];have ku:∀W:World,W.heap=w.heap.push (.cells (l9++di).toArray e (0,0))->W.shape? w.heap.size=some (e,g):=by simp_all[World.shape?]
      simp only[markStringish,Sem.run_bind,run_shape,Result.andThen_ok];rw[ku _ rfl];simp only[run_freeze,Result.andThen_ok];have hf:=aar {w with drawn:=w.drawn+1} (l9++di).toArray e
      grind
     ·have N:e6 s.data.toList=s.size:=by simp_all[f0]
      rw[N];rw[F]at X;exact xB (size:=1) X U V U
    case slice aau=>
     split at d
     case isFalse=>cases d
     case isTrue y=>
     rw[Bool.and_eq_true]at y;obtain⟨y,p⟩:=y;have p:qp=dst:=eq_of_beq_eq_true p;have q:P.underlying e=some (.int .u8):=by grind[xk]
     simp only[sa]at d;split at d
     case h_2=>cases d
     case h_1 awb len cc=>
     split at d
     case h_1=>cases d
     case h_2 id off cq=>
     split at d
     case h_1=>cases d
     case h_2=>
     split at d
     case h_1=>cases d
     case h_2 Nm=>
     split at d
     case h_2=>cases d
     case h_1 b hg=>
     split at d
     case h_2=>cases d
     case h_1 awc=>
     cases d;have fp:b.wr=true:=by simp_all[an.lY]
     have F:len≠0:=fun e=>a1
     have Aa:=L;have aav:∃c o s g,bA=.slice (some ⟨c,o+off,none⟩) len g/\σ id=some (c,o,s):=by
      cases L
      case l3=>simp_all
      simp_all
     obtain⟨c,o,s,g,rfl,t⟩:=aav;have d5:h id=some b:=I ⟨_,j⟩ id rfl b hg;obtain⟨bC,l1,bJ,K,d4,mQ,M,N,_⟩:=ah.e7 id b d5;rw[t]at M;cases M;have No:=Zy (n:=H.next) ah id b d5 fp c o s K d4 mQ t N;refine⟨_,w.freeze {block:=c,off:=K.size} 1,σ,?_,Aa,?_⟩
     ·have z:w.shape? c=some (d4,K.size):=by simp_all[World.shape?]
      subst p;rw[a2]at j;cases j;simp only[convert,Sem.run_bind,run_underlying a2,Result.andThen_ok,run_underlying q,beq_self_eq_true,markStringish,run_shape,z,run_freeze,Sem.run_pure]
     simp_all[vZ]
end
end Go.Ab
