/- texts of the pv, gd behind the oq -/
import Derived.KernelRfl
import Derived.Deep.Slices
import Derived.Carry
import Derived.Test.YtifflnhooaophaaGreatDoorAbB
set_option linter.unusedVariables false
set_option linter.unusedSimpArgs false
set_option linter.unusedSectionVars false
namespace Go.Ab
open Go
local instance:hy:=⟨fun _=>none,0⟩
section
variable{P:Program}{c4 cw:hl}
abbrev rz(c4 cw:hl):Prop:=∀t o,c4 t=some o->cw t=some o
theorem akB(h:rz c4 cw){x:Option we}{H:au}{r:Value×au}(U:tS c4 x H=some r):tS cw x H=some r:=by grind[FE,tS]
theorem Js(h:rz c4 cw){op:Op}{T:List Value}{H:au}{r:Value×au}(U:(hU P op).f c4 T H=some r):(hU P op).f cw T H=some r:=by
 unfold hU at U⊢;split
 ·rename_i fC;rw[fC]at U;simp only at U;unfold xh at U⊢
  grind[akB]
 simp_all
theorem Jt(h:rz c4 cw)(all:List Oper):∀(l:List Oper) (T:List Value) (H:au) (o:ef),jo P c4 all l T H=some o->jo P cw all l T H=some o
 | [],T,H,o,U=>U
 | x::l,T,H,o,U=>by
  have U:gE P c4 x ((ie all x.guard).f T) T H (jo P c4 all l)=some o:=U;show gE P cw x ((ie all x.guard).f T) T H (jo P cw all l)=some o;unfold gE at U⊢;split
  ·rename_i aM;rw[aM]at U;simp only at U;split at U
   ·rename_i v bw aw;rw[Js h aw];exact Jt h all l _ _ _ U
   ·cases U
  ·rename_i aM;rw[aM]at U;exact Jt h all l _ _ _ U
theorem Wb(h:rz c4 cw){x:Oper}{p:na}{T:List Value}{H:au}{r:Value×au}(U:sY P c4 x p T H=some r):sY P cw x p T H=some r:=by
 unfold sY at U⊢;split at U
 ·cases ad:(hU P x.op).f c4 T (lK H)with
  | none=>rw[ad]at U;cases U
  | some y=>grind[Js]
 grind[Js]
theorem Ju(h:rz c4 cw)(all:List Oper):∀(l:List (Oper×na)) (T:List Value) (H:au) (dC:List l2) (o:ef),p6 P c4 all l T H dC=some o->p6 P cw all l T H dC=some o
 | [],T,H,dC,o,U=>U
 |(x,p)::l,T,H,dC,o,U=>by
  have U:rl P c4 x p ((ie all x.guard).f T) T H dC (p6 P c4 all l)=some o:=U;show rl P cw x p ((ie all x.guard).f T) T H dC (p6 P cw all l)=some o;unfold rl at U⊢;split
  ·rename_i aM;rw[aM]at U;simp only at U;split at U
   ·rename_i v bw aw;have:sY P cw x p T H=some (v,bw):=Wb h aw;rw[this];simp only;split at U
    ·exact Ju h all l _ _ _ _ U
    ·cases U
   ·cases U
  ·rename_i aM;rw[aM]at U;exact Ju h all l _ _ _ _ U
theorem akC(h:rz c4 cw){all:List Oper}{T:List Value}{H:au}{o:ef}(U:ox P c4 all T H=some o):ox P cw all T H=some o:=by grind[ox,Ju]
theorem akD(h:rz c4 cw){g:Value}{bz:List Tmp}{cX body:Code}{T:List Value}{H:au}{o:ef}(U:u7 c4 g bz cX body T H=some o):u7 cw g bz cX body T H=some o:=by grind[u7]
theorem wC(h:rz c4 cw)(de:Bool):∀(c:Code) (T:List Value) (H:au) (o:ef),(dr P de c).f c4 T H=some o->(dr P de c).f cw T H=some o:=by
 intro c;induction c with
 | skip=>intro T H o U;exact U
 | region id bA d=>
  intro T H o U;cases d with
  | true=>exact akC h (all:=bA.toList) U
  | false=>exact Jt h _ _ _ _ _ U
 | seq x y cL vs=>
  intro T H o U;have U:nb ((dr P de x).f c4 T H) (fun T H=>(dr P de y).f c4 T H)=some o:=U;show nb ((dr P de x).f cw T H) (fun T H=>(dr P de y).f cw T H)=some o;obtain⟨bW,ad,af⟩:=sh U;rw[cL _ _ _ ad];obtain⟨e,ft,bw⟩:=bW;cases e with
  | normal=>
   rcases af with⟨_,af⟩|⟨af,_⟩
   ·exact vs _ _ _ af
   simp_all
  | exit id=>rcases af with⟨af,_⟩|⟨_,rfl⟩<;>first|cases af|rfl
  | ret=>rcases af with⟨af,_⟩|⟨_,rfl⟩<;>first|cases af|rfl
 | cond c x y cL vs=>
  intro T H o U;have U:oZ c4 ((ee c).g T) (dr P de x) (dr P de y) T H=some o:=U;show oZ cw ((ee c).g T) (dr P de x) (dr P de y) T H=some o;unfold oZ at U⊢
  grind
 | block id x cL=>grind[dr,Ou]
 | loop x _=>intro T H o U;exact h (.loop de x T H) o U
 | rangeFunc g bz cX body _ _=>
  intro T H o U;cases de with
  | false=>cases U
  | true=>exact akD h (g:=(CJ g).g T) (bz:=bz.toList) (cX:=cX) (body:=body) U
 | exit id=>intro T H o U;exact U
 | label l=>intro T H o U;exact U
 | ret=>intro T H o U;exact U
 | _=>intros;rename_i U;cases U
theorem akE{bW dt:Option ef}{eJ hx:List Value->au->Option ef}{o:ef}(ad:∀o,bW=some o->dt=some o)(af:∀T H o,eJ T H=some o->hx T H=some o)(U:Fb bW eJ=some o):Fb dt hx=some o:=by obtain⟨x,bX,b7,g3⟩:=VL U;rw[ad _ bX];obtain⟨e,T,H⟩:=x;cases b7;exact af _ _ _ g3
theorem OE(h:rz c4 cw):rz (step P c4) (step P cw):=by
 intro t o U;cases t with
 | loop de c T H=>
  have U:nb ((dr P de c).f c4 T H) (fun T H=>c4 (.loop de c T H))=some o:=U;show nb ((dr P de c).f cw T H) (fun T H=>cw (.loop de c T H))=some o;obtain⟨bW,ad,af⟩:=sh U;rw[wC h de _ _ _ _ ad];obtain⟨e,ft,bw⟩:=bW;cases e with
  | normal=>
   rcases af with⟨_,af⟩|⟨af,_⟩
   ·exact h _ _ af
   simp_all
  | exit id=>rcases af with⟨af,_⟩|⟨_,rfl⟩<;>first|cases af|rfl
  | ret=>rcases af with⟨af,_⟩|⟨_,rfl⟩<;>first|cases af|rfl
 | call f args H=>
  have U:(tU P f).f c4 args H=some o:=U;show(tU P f).f cw args H=some o;unfold tU at U⊢;split at U
  ·rename_i fn hf;split at U
   ·rename_i c aA;simp only[];simp only at U;unfold va at U⊢
    grind[wC]
   omega
  omega
 | round l args H=>
  have U:wh P c4 l args H=some o:=U;show wh P cw l args H=some o;unfold wh at U⊢;split at U
  ·rename_i r aD;split at U
   ·rename_i aX;refine akE (fun _=>wC h false _ _ _ _) (fun ft bw o ag=>?_) U;split at ag
    ·rename_i cD an;unfold Fc at ag⊢
     grind[wC]
    omega
   omega
  omega
theorem akF{f:FuncId}{c:Code}{args:List Value}{H:au}{o:ef}(h:rz c4 cw)(U:ry P f c c4 args H=some o):ry P f c cw args H=some o:=by
 unfold ry at U⊢;split at U
 ·rename_i fn _;cases kP:Nat.ble (fE args) (fn.params.size+fn.nfree)with
  | false=>simp_all
  | true=>
  rw[kP]at U;show va P fn.results.toList _=some o;have U:va P fn.results.toList _=some o:=U;unfold va at U⊢
  grind[wC]
 omega
theorem akG[ep](h:rz c4 cw):rz (Dr P c4) (Dr P cw):=by
 intro t o U;cases t with
 | loop de c T H=>exact OE h (.loop de c T H) o U
 | round l args H=>exact OE h (.round l args H) o U
 | call f args H=>
  have U:(match ep.lf f args H with|some v=>some ⟨.ret,[v],H⟩|none=>match ep.oG f with|some c=>ry P f c c4 args H|none=>step P c4 (.call f args H))=some o:=U;show(match ep.lf f args H with|some v=>some ⟨.ret,[v],H⟩|none=>match ep.oG f with|some c=>ry P f c cw args H|none=>step P cw (.call f args H))=some o
  grind[akF,OE]
theorem akH[ep](n:Nat):rz (eM P n) (eM P (n+1)):=by
 induction n with
 | zero=>intro t o h;cases h
 | succ n bd=>exact akG bd
theorem wD[ep]{n m:Nat}(h:n<=m):rz (eM P n) (eM P m):=by
 induction h with
 | refl=>grind
 | step _ bd=>grind[akH]
end
end Go.Ab
namespace Go.Ab
open Go
noncomputable section
abbrev eV:=Nat->Value
def put(ρ:eV)(d:Option Tmp)(v:Value):eV:=match d with
 | some d=>fun i=>cond (Nat.beq i d) v (ρ i)
 | none=>ρ
def eK(x:Operand)(ρ:eV):Value:=match x with
 | .tmp t=>ρ t
 | .const v=>v
 | .global g=>.pointer (some ⟨g,0,none⟩)
 | .func f=>.func (.func f) #[] #[]
def vj(l:List Operand)(ρ:eV):List Value:=List.rec (motive:=fun _=>List Value) [] (fun o _ bd=>eK o ρ::bd) l
def Jv(l:List (Nat×Operand))(ρ:eV):List (Nat×Value):=List.rec (motive:=fun _=>List (Nat×Value)) [] (fun p _ bd=>(p.1,eK p.2 ρ)::bd) l
def Jw(o:Option Operand)(ρ:eV):Option Value:=match o with
 | none=>none
 | some o=>some (eK o ρ)
def qR(ρ:eV)(l:List Nat):List Value:=List.rec (motive:=fun _=>List Value) [] (fun i _ bd=>ρ i::bd) l
def FQ(l:List Value)(kk:List Nat):Nat->Nat->Value:=
 List.rec (motive:=fun _=>Nat->Nat->Value) (fun _ _=>undef) (fun k _ bd p i=>cond (Nat.beq i k) (b3 l p) (bd (Nat.succ p) i)) kk
def ml(kk:List Nat)(l:List Value):eV:=fun i=>FQ l kk 0 i
def Bb(x:Operand):Nat:=match x with|.tmp t=>Nat.shiftLeft 1 t|_=>0
def FR(l:List Operand):Nat:=List.rec (motive:=fun _=>Nat) 0 (fun x _ bd=>Nat.lor (Bb x) bd) l
def FT(m d:Nat):Nat:=cond (hX m d) (Nat.xor m (Nat.shiftLeft 1 d)) m
def Jx(m:Nat)(d:Option Tmp):Nat:=match d with|some d=>FT m d|none=>m
def OF(all:List Oper)(g:Option (Nat×Bool)):Option (Option Nat×Bool):=match g with
 | none=>none
 | some (j,cT)=>some ((ot all j).bind (·.dst),cT)
def FU(all:List Oper)(g:Option (Nat×Bool)):Nat:=match OF all g with
 | some (some d,_)=>Nat.shiftLeft 1 d
 | _=>0
def Dt(all l:List Oper)(N:Nat):Nat:=List.rec (motive:=fun _=>Nat) N (fun o _ bd=>Nat.lor (Jx bd o.dst) (Nat.lor (FR o.op.operands.toList) (FU all o.guard))) l
def fa(c:Code):Nat->Nat->Nat:=
 Code.rec (motive:=fun _=>Nat->Nat->Nat)
  (fun N _=>N)
  (fun _ bA _ N _=>Dt bA.toList bA.toList N)
  (fun _ _ a b N X=>a (b N X) X)
  (fun c _ _ a b N X=>Nat.lor (Bb c) (Nat.lor (a N X) (b N X)))
  (fun _ _ a N X=>a N (Nat.lor N X))
  (fun _ a _ X=>a 0 X)
  (fun g _ _ _ a b N X=>Nat.lor (Bb g) (Nat.lor (Nat.lor N X) (a (b 0 0) 0)))
  (fun _ _ X=>X)
  (fun _ _ _ _=>0)
  (fun _ N _=>N)
  (fun _ _ _=>0)
  (fun _ X=>X)
  (fun _ _ _=>0) c
def Wc(m n:Nat):List Nat:=Nat.rec (motive:=fun _=>List Nat->List Nat) (fun jr=>jr) (fun k bd jr=>bd (cond (hX m k) (k::jr) jr)) n []
def bits(n m:Nat):List Nat:=Wc m n
def akI(id:Nat)(c:Code):Nat:=
 Code.rec (motive:=fun _=>Nat) 0 (fun _ _ _=>0) (fun _ _ a b=>a+b) (fun _ _ _ a b=>a+b) (fun _ _ a=>a) (fun _ a=>a) (fun _ _ _ _ _ _=>0) (fun i=>cond (Nat.beq i id) 1 0) (fun _ _=>0) (fun _=>0) (fun _=>0) 0 (fun _=>0) c
def akJ(l:List Oper):Bool:=not (jT (fun o=>match o.guard with|none=>true|some _=>false) l)
def Wd(c:Code):Nat:=
 Code.rec (motive:=fun _=>Nat) 0 (fun _ bA _=>fE bA.toList) (fun _ _ a b=>a+b) (fun _ _ _ a b=>a+b+4) (fun _ _ a=>a) (fun _ _=>9) (fun _ _ _ _ _ _=>9) (fun _=>0) (fun _ _=>0) (fun _=>0) (fun _=>0) 0 (fun _=>0) c
def lB(c:Code):Nat:=
 Code.rec (motive:=fun _=>Nat) 1 (fun _ bA _=>cond (akJ bA.toList) 2 1) (fun _ b Jy We=>cond (Nat.ble 2 Jy&&Nat.ble 6 (Wd b)) We (Jy*We)) (fun _ _ _ a b=>a+b) (fun id b a=>a+akI id b) (fun _ _=>0) (fun _ _ _ _ _ _=>1) (fun _=>0) (fun _ _=>0) (fun _=>1) (fun _=>0) 0 (fun _=>0) c
def Wf(a b:Code):Bool:=Nat.ble 2 (lB a)&&Nat.ble 6 (Wd b)
def ah(r:R)(aa:Value->au->Prop):Prop:=∃v ab,r=some (v,ab)/\aa v ab
def ae(r:Option Value)(aa:Value->Prop):Prop:=∃v,r=some v/\aa v
def aN(v:Value)(A B:Prop):Prop:=(v=.bool true->A)/\(v=.bool false->B)/\∃b,v=.bool b
def au.push(H:au)(ar:List Value):au:=⟨H.t.set H.next (some ⟨ar,true⟩),Nat.succ H.next,H.dy,H.dO⟩
def cO(ar:List Value)(H:au)(aa:Value->au->Prop):Prop:=aa (.pointer (some ⟨H.next,0,none⟩)) (H.push ar)
def fO(A:(List Value->au->Prop)->Prop)(B:List Value->au->Prop):Prop:=∃J,A J/\∀l H,J l H->B l H
def aH(c a b:Value):Option Value:=match c with|.bool t=>(match t with|true=>some a|false=>some b)|_=>none
def eA(i:Nat)(x:Value):Option Value:=match x with|.tuple bV=>ot bV.toList i|_=>none
def ei(s:Nat->Bool)(lx:List Nat):Prop:=jT s lx=true
def qS(a b:List Nat):Prop:=oY a b=true
def mH(a:List Nat)(eZ aq:Nat):Prop:=yJ a eZ aq=true
def OG(n off:Nat)(x:Value):Option Value:=match x with|.agg ar=>some (.agg (pw (p3 ar.toList off) n).toArray)|_=>none
def j5(k:IntKind)(x:Value)(H:au):R:=match x with|.int _ n=>some (.int k (iY k n),H)|_=>none
def cG(x:Value)(H:au):R:=match x with|.slice _ n _=>some (.int .i64 n,H)|_=>none
def Jz(x:Value)(H:au):R:=match x with|.string s=>some (.int .i64 (Int.ofNat (fE s.data.toList)),H)|_=>none
def dq(P:Program)(t:TypeId):List Value:=match h3 P t with|some z=>dp z|none=>[]
section
variable[ep](P:Program)
def xJ(t:At)(aa:Value->au->Prop):Prop:=∃n cP v ab,eM P n t=some ⟨cP,[v],ab⟩/\aa v ab
def wCall(f:FuncId)(args:List Value)(H:au)(aa:Value->au->Prop):Prop:=xJ P (.call f args H) aa
def xK(x:Option we)(H:au)(aa:Value->au->Prop):Prop:=match x with
 | some t=>(match t with
  | .fn f args=>wCall P f args H aa
  | .rk l args=>xJ P (.round l args H) aa)
 | none=>False
def OH(H:au)(aa:Value->au->Prop):Prop:=aa (.map (some H.next)) (r4 H)
def FV(op:Op)(ρ:eV)(H:au)(aa:Value->au->Prop):Prop:=match op with
 | .move x=>aa (eK x ρ) H
 | .assign x=>aa (eK x ρ) H
 | .pick c a b=>ae (aH (eK c ρ) (eK a ρ) (eK b ρ)) fun v=>aa v H
 | .alloc t=>match h3 P t with
  | some z=>cO (dp z) H aa
  | none=>False
 | .box _ x=>cO (dp (eK x ρ)) H aa
 | .build t hD=>ae ((di P t).f (Jv hD.toList ρ)) fun v=>aa v H
 | .buildSlice t len hD=>ah ((eY P t len).f (Jv hD.toList ρ) H) aa
 | .load t a=>ah ((n1 P t).f (eK a ρ) H) aa
 | .store t a x=>match gM P t with
  | some n=>ah (bC n (eK a ρ) (eK x ρ) H) aa
  | none=>False
 | .nilCheck x=>ae (r3 (eK x ρ)) fun v=>aa v H
 | .binOp op t x y _=>ae ((ay P op t (u1 x||u1 y)).f (eK x ρ) (eK y ρ)) fun v=>aa v H
 | .unOp op _ x=>ae (hE op (eK x ρ)) fun v=>aa v H
 | .convert s d x=>ah ((Ak P s d).f (eK x ρ) H) aa
 | .makeInterface t x=>match P.underlying t with
  | some (.interface _)=>False
  | some _=>aa (.iface t (eK x ρ)) H
  | none=>False
 | .makeFunc fn first cap=>match fn with
  | .func f=>aa (.func (.func f) (vj first.toList ρ).toArray (vj cap.toList ρ).toArray) H
  | _=>False
 | .makeSlice t l c=>ah ((qF P t).f (eK l ρ) (eK c ρ) H) aa
 | .slice t x eZ aq gW=>ae ((H6 P t).f (eK x ρ) (Jw eZ ρ) (Jw aq ρ) (Jw gW ρ) H) fun v=>aa v H
 | .fieldAddr s x f=>ae ((yG P s f).f (eK x ρ)) fun v=>aa v H
 | .field t x f=>ae ((Ib P t f).f (eK x ρ)) fun v=>aa v H
 | .indexAddr t x i=>ae ((H8 P t).f (eK x ρ) (eK i ρ)) fun v=>aa v H
 | .index t x i=>ae ((Ia P t).f (eK x ρ) (eK i ρ)) fun v=>aa v H
 | .typeAssert x _ a ok=>ae ((Ap P a ok).f (eK x ρ)) fun v=>aa v H
 | .extract x i=>ae (eA i (eK x ρ)) fun v=>aa v H
 | .call c=>match c.callee with
  | .builtin b=>ah ((tN P b c.argTypes.toList).f (vj c.args.toList ρ) H) aa
  | .value f=>xK P (tR (eK f ρ) (vj c.args.toList ρ)) H aa
  | .invoke r name=>xK P (MG P name (eK r ρ) (vj c.args.toList ρ)) H aa
 | .makeMap _ r=>match r with
  | none=>OH H aa
  | some _=>False
 | .lookup t x i ok=>ah (wc P t ok (eK x ρ) (eK i ρ) H) aa
 | .mapUpdate t m k x=>ah (tQ P t (eK m ρ) (eK k ρ) (eK x ρ) H) aa
 | .insert t m k x=>ah (tQ P t (eK m ρ) (eK k ρ) (eK x ρ) H) aa
 | _=>False
def Du(op:Op)(ρ:eV)(H:au)(aa:Value->au->Prop):Prop:=match jT (u4 P) op.operands.toList with
 | true=>FV P op ρ H aa
 | false=>False
inductive kU where
 | mg|kK|undef|any
def xL(l:List (Nat×kU))(d:Nat):kU:=List.rec (motive:=fun _=>kU) .any (fun x _ bd=>cond (Nat.beq x.1 d) x.2 bd) l
def xM(l:List (Nat×kU))(d:Option Tmp)(k:kU):List (Nat×kU):=match d with|some d=>(d,k)::l|none=>l
def wE(dc:List (Nat×kU))(x:Operand):kU:=match x with
 | .tmp t=>xL dc t
 | .const v=>match v with
  | .bool b=>(match b with|true=>.mg|false=>.kK)
  | _=>.any
 | _=>.any
def y5(dc:List (Nat×kU))(op:Op):kU:=match op with
 | .pick c a b=>match wE dc c with
  | .mg=>wE dc a
  | .kK=>wE dc b
  | _=>.any
 | .move x=>wE dc x
 | .assign x=>wE dc x
 | _=>.any
def JA(n:Nat)(d:Option Tmp):Bool:=match d with|some d=>Nat.blt d n|none=>true
def Dv(n:Nat)(all:List Oper)(o:Oper)(FW skip:List (Nat×kU)->Prop)(dc:List (Nat×kU))(ρ:eV):Prop:=match JA n o.dst with
 | false=>False
 | true=>match OF all o.guard with
  | none=>FW dc
  | some (ds,cT)=>match ds with
   | none=>skip dc
   | some d=>match xL dc d with
    | .mg=>cond cT (FW dc) (skip dc)
    | .kK=>cond cT (skip dc) (FW dc)
    | .undef=>skip dc
    | .any=>cond cT (aN (ρ d) (FW ((d,.mg)::dc)) (skip ((d,.kK)::dc))) (aN (ρ d) (skip ((d,.mg)::dc)) (FW ((d,.kK)::dc)))
def JB(n:Nat)(all l:List Oper)(aa:eV->au->Prop):List (Nat×kU)->eV->au->Prop:=
 List.rec (motive:=fun _=>List (Nat×kU)->eV->au->Prop) (fun _ ρ H=>aa ρ H)
  (fun o _ bd dc ρ H=>Dv n all o (fun ew=>Du P o.op ρ H fun v ab=>bd (xM ew o.dst (y5 ew o.op)) (put ρ o.dst v) ab) (fun ew=>bd (xM ew o.dst .undef) (put ρ o.dst undef) H) dc ρ) l
def Dw(o:Oper)(p:na)(ρ:eV)(H ab:au):l2:=⟨p.cL,p.eI,match p.eI with|1=>cd (vj o.op.operands.toList ρ)|4=>cd (vj o.op.operands.toList ρ)|_=>[],H.next,ab.next,match p.eI with|3=>dZ H ab|_=>fun _=>false⟩
def Bd(k j:l2)(X:Prop):Prop:=match k.eI with
 | 0=>X
 | 1=>match j.eI with
  | 3=>ei j.kL k.lx/\X
  | 4=>qS k.lx j.lx/\X
  | _=>X
 | 2=>match j.eI with
  | 0=>X
  | 1=>mH j.lx k.eZ k.aq/\X
  | 2=>X
  | 4=>mH j.lx k.eZ k.aq/\X
  | _=>False
 | 3=>match j.eI with
  | 0=>X
  | 1=>ei k.kL j.lx/\X
  | 2=>X
  | _=>False
 | 4=>match j.eI with
  | 0=>X
  | 1=>qS k.lx j.lx/\mH j.lx k.eZ k.aq/\X
  | 2=>X
  | _=>False
 | _=>False
def JC(lv:Nat)(j:l2)(dC:List l2)(X:Prop):Prop:=match j.eI with
 | 0=>X
 | _=>List.rec (motive:=fun _=>Prop) X (fun k _ bd=>cond (hX lv k.cL) bd (Bd k j bd)) dC
def akK(bw H:au):Prop:=Nat.beq bw.next H.next=true
def JD(p:na)(op:Op)(ρ:eV)(H:au)(aa:Value->au->Prop):Prop:=match p.lK with
 | true=>Du P op ρ (lK H) fun v bw=>akK bw H/\aa v H
 | false=>Du P op ρ H aa
def JE(n:Nat)(all:List Oper)(l:List (Oper×na))(aa:eV->au->Prop):List (Nat×kU)->eV->au->List l2->Prop:=
 List.rec (motive:=fun _=>List (Nat×kU)->eV->au->List l2->Prop) (fun _ ρ H _=>aa ρ H)
  (fun o _ bd dc ρ H dC=>Dv n all o.1 (fun ew=>JD P o.2 o.1.op ρ H fun v ab=>JC o.2.lv (Dw o.1 o.2 ρ H ab) dC (bd (xM ew o.1.dst (y5 ew o.1.op)) (put ρ o.1.dst v) ab (Dw o.1 o.2 ρ H ab::dC)))
   (fun ew=>bd (xM ew o.1.dst .undef) (put ρ o.1.dst undef) H dC) dc ρ) l
def OI(n:Nat)(bA:List Oper)(d:Bool)(ρ:eV)(H:au)(aa:eV->au->Prop):Prop:=match d with
 | true=>match MI bA with
  | true=>JE P n bA (r6 P bA) aa [] ρ H []
  | false=>False
 | false=>JB P n bA bA aa [] ρ H
def xN(kk:List Nat)(ρ:eV)(T:List Value):Prop:=∀i,i∈kk->b3 T i=ρ i
def OJ(bY:Nat->List Value->au->Prop)(c9:List Value->au->Prop):mW->List Value->au->Prop
 | .normal=>fun _ _=>False
 | .exit id=>bY id
 | .ret=>c9
def fw(de:Bool)(n:Nat)(b:Code)(X:Nat)(lS:List Value)(H:au)(bY:Nat->List Value->au->Prop)(c9:List Value->au->Prop):Prop:=
 ∀T,T.length=n->xN (bits n (fa b 0 X)) (ml (bits n (fa b 0 X)) lS) T->
  ∃m o,eM P m (.loop de b T H)=some o/\o.T.length=n/\∃l,xN (bits n X) (ml (bits n X) l) o.T/\OJ bY c9 o.cP l o.H
def FX(J:eV->au->Prop)(Q:mW->eV->au->Prop):mW->eV->au->Prop
 | .normal=>J
 | .exit id=>Q (.exit id)
 | .ret=>Q .ret
def Wg(id:Nat)(Q:mW->eV->au->Prop):mW->eV->au->Prop
 | .normal=>Q .normal
 | .exit i=>fun ρ H=>cond (Nat.beq i id) (Q .normal ρ H) (Q (.exit i) ρ H)
 | .ret=>Q .ret
def Wh(n:Nat)(b:Code)(X:Nat)(N:List Value->au->Prop)(bY:Nat->List Value->au->Prop)(c9:List Value->au->Prop):mW->eV->au->Prop
 | .normal=>fun ρ H=>N (qR ρ (bits n (fa b 0 X))) H
 | .exit id=>fun ρ H=>bY id (qR ρ (bits n X)) H
 | .ret=>fun ρ H=>c9 (qR ρ (bits n X)) H
def Wi(N:au->Prop)(bY:Nat->au->Prop)(c9:au->Prop):mW->au->Prop
 | .normal=>N
 | .exit id=>bY id
 | .ret=>c9
def sj(cX body:Code):Nat:=fa cX (fa body 0 0) 0
def FY(n:Nat)(bz:List Tmp)(cX body:Code)(lS:List Value)(g:Value)(H:au)(N:au->Prop)(bY:Nat->au->Prop)(c9:au->Prop):Prop:=
 ∀T,T.length=n->xN (bits n (sj cX body)) (ml (bits n (sj cX body)) lS) T->
  ∃m o,u7 (eM P m) g bz cX body T H=some o/\o.T=T/\Wi N bY c9 o.cP o.H
def OK(g:Operand)(ρ:eV):Value:=match g with|.tmp t=>ρ t|_=>undef
def akL(c:Code):List (List Tmp×Code×Code):=
 Code.rec (motive:=fun _=>List (List Tmp×Code×Code)) [] (fun _ _ _=>[]) (fun _ _ a b=>hT a b) (fun _ _ _ a b=>hT a b) (fun _ _ a=>a) (fun _ a=>a) (fun _ bz cX body a b=>(bz.toList,cX,body)::hT a b) (fun _=>[]) (fun _ a=>a) (fun _=>[]) (fun _=>[]) [] (fun _=>[]) c
def akM(c:Code):List Code:=
 Code.rec (motive:=fun _=>List Code) [] (fun _ _ _=>[]) (fun _ _ a b=>hT a b) (fun _ _ _ a b=>hT a b) (fun _ _ a=>a) (fun b a=>b::a) (fun _ _ _ _ a b=>hT a b) (fun _=>[]) (fun _ a=>a) (fun _=>[]) (fun _=>[]) [] (fun _=>[]) c
def Wj(P:Program)(f:FuncId):Code:=match P.funcs.toList[f]? with
 | some fn=>(match fn.body with|some c=>c|none=>.skip)
 | none=>.skip
def iN(P:Program)(f:FuncId)(i:Nat):Code:=match ot (akM (Wj P f)) i with
 | some b=>b
 | none=>.skip
def Wk(P:Program)(f:FuncId)(i:Nat):List Tmp×Code×Code:=match ot (akL (Wj P f)) i with
 | some b=>b
 | none=>([],.skip,.skip)
def qh(de:Bool)(n:Nat)(c:Code):Nat->Nat->eV->au->(mW->eV->au->Prop)->Prop:=
 Code.rec (motive:=fun _=>Nat->Nat->eV->au->(mW->eV->au->Prop)->Prop)
  (fun _ _ ρ H Q=>Q .normal ρ H)
  (fun _ bA d _ _ ρ H Q=>OI P n bA.toList d ρ H (Q .normal))
  (fun a b vw mm N X ρ H Q=>match Wf a b with
   | true=>fO (fun J=>vw (fa b N X) X ρ H (FX (fun ρ H=>J (qR ρ (bits n (fa b N X))) H) Q)) (fun l H=>mm N X (ml (bits n (fa b N X)) l) H Q)
   | false=>vw (fa b N X) X ρ H (FX (fun ρ H=>mm N X ρ H Q) Q))
  (fun c _ _ vw mm N X ρ H Q=>aN (eK c ρ) (vw N X ρ H Q) (mm N X ρ H Q))
  (fun id _ mm N X ρ H Q=>mm N (Nat.lor N X) ρ H (Wg id Q))
  (fun b _ _ X ρ H Q=>match Nat.beq (fa b (fa b 0 X) X) (fa b 0 X)with
   | true=>fw P de n b X (qR ρ (bits n (fa b 0 X))) H (fun id l H=>Q (.exit id) (ml (bits n X) l) H) (fun l H=>Q .ret (ml (bits n X) l) H)
   | false=>False)
  (fun g bz cX body _ _ _ _ ρ H Q=>match de with
   | true=>FY P n bz.toList cX body (qR ρ (bits n (sj cX body))) (OK g ρ) H (Q .normal ρ) (fun id=>Q (.exit id) ρ) (Q .ret ρ)
   | false=>False)
  (fun id _ _ ρ H Q=>Q (.exit id) ρ H)
  (fun _ _ _ _ _ _ _=>False)
  (fun _ _ _ ρ H Q=>Q .normal ρ H)
  (fun _ _ _ _ _ _=>False)
  (fun _ _ ρ H Q=>Q .ret ρ H)
  (fun _ _ _ _ _ _=>False) c
def JF(bz:List Tmp)(args:List Value):Nat->eV->eV:=List.rec (motive:=fun _=>Nat->eV->eV) (fun _ ρ=>ρ) (fun p _ bd k ρ=>bd (Nat.succ k) (put ρ (some p) (b3 args k))) bz
def FZ(l:Nat)(H:au)(aa:au->Prop):Prop:=∃cD,AA l H=some cD/\aa cD
def Dx(l:Nat)(e:mW)(H:au)(aa:Value->au->Prop):Prop:=∃cD,u9 l (CQ e) H=some cD/\aa (.bool (yM e)) cD
def akN(l:Nat)(B:eV->au->Prop):mW->eV->au->Prop
 | .normal=>fun ρ H=>FZ l H (B ρ)
 | .exit _=>fun _ _=>False
 | .ret=>fun _ _=>False
def JG(n:Nat)(bz:List Tmp)(cX body:Code)(lS args:List Value)(l:Nat)(H:au)(aa:Value->au->Prop):Prop:=
 qh P false n cX (fa body 0 0) 0 (JF bz args 0 (ml (bits n (sj cX body)) lS)) H (akN l fun ρ H=>qh P false n body 0 0 ρ H fun e _ H=>Dx l e H aa)
def JH(r:ResultVar)(ρ:eV)(H:au)(aa:Value->Prop):Prop:=match r with
 | .tmp t=>aa (ρ t)
 | .cell a t=>ah ((n1 P t).f (ρ a) H) fun v _=>aa v
def OL(dC:List ResultVar)(ρ:eV)(H:au):(List Value->Prop)->Prop:=
 List.rec (motive:=fun _=>(List Value->Prop)->Prop) (fun k=>k []) (fun r _ bd k=>JH P r ρ H fun v=>bd fun bV=>k (v::bV)) dC
def Dy(dC:List ResultVar)(ρ:eV)(H:au)(aa:Value->au->Prop):Prop:=match dC with
 | [r]=>JH P r ρ H fun v=>aa v H
 | dC=>OL P dC ρ H fun bV=>aa (.tuple bV.toArray) H
def JI(r:ResultVar):Nat:=match r with|.tmp t=>Nat.shiftLeft 1 t|.cell a _=>Nat.shiftLeft 1 a
def wF(dC:List ResultVar):Nat:=List.rec (motive:=fun _=>Nat) 0 (fun r _ bd=>Nat.lor (JI r) bd) dC
def Wl(dC:List ResultVar)(aa:Value->au->Prop):mW->eV->au->Prop
 | .normal=>fun ρ H=>Dy P dC ρ H aa
 | .exit _=>fun _ _=>False
 | .ret=>fun ρ H=>Dy P dC ρ H aa
def y7(f:FuncId)(args:List Value)(H:au)(aa:Value->au->Prop):Prop:=match P.funcs.toList[f]? with
 | some fn=>match fn.body with
  | some c=>match Nat.ble (fE args) fn.ntmps with
   | true=>qh P true fn.ntmps c (wF fn.results.toList) (wF fn.results.toList) (fun i=>b3 args i) H (Wl P fn.results.toList aa)
   | false=>False
  | none=>False
 | none=>False
end
end
end Go.Ab
namespace Go.Ab
open Go
local instance:hy:=⟨fun _=>none,0⟩
theorem Wm(a b i:Nat):hX (Nat.lor a b) i=(hX a i||hX b i):=by rw[vq,vq,vq,show Nat.lor a b=a|||b from rfl,Nat.testBit_or]
theorem Dz(t i:Nat):hX (Nat.shiftLeft 1 t) i=decide (t=i):=by
 rw[vq,show Nat.shiftLeft 1 t=1<<<t from rfl,Nat.testBit_shiftLeft]
 grind[Nat.testBit_one_eq_true_iff_self_eq_zero]
theorem Wn(m d i:Nat):hX (FT m d) i=(hX m i&&decide (d≠i)):=by
 unfold FT;cases an:hX m d with
 | true=>
  simp only[cond_true];rw[vq,show Nat.xor m (Nat.shiftLeft 1 d)=m ^^^ (1<<<d)from rfl,Nat.testBit_xor,<- vq,<- vq,show(1<<<d)=Nat.shiftLeft 1 d from rfl,Dz]
  grind
 | false=>grind
def iz(m:Nat)(ρ:eV)(T:List Value):Prop:=∀i,hX m i=true->b3 T i=ρ i
theorem iz.or{a b:Nat}{ρ:eV}{T:List Value}(h:iz (Nat.lor a b) ρ T):iz a ρ T/\iz b ρ T:=
 ⟨fun i aq=>h i (by grind[Wm]),fun i aq=>h i (by rw[Wm,aq,Bool.or_true])⟩
theorem OM{T:List Value}{d i:Nat}{v:Value}(aJ:d<T.length):b3 (gV T d v) i=if d=i then v else b3 T i:=by
 rw[o1,o0,o0,List.getD_eq_getElem?_getD,List.getD_eq_getElem?_getD]
 grind
theorem F0{m n:Nat}{ρ:eV}{T:List Value}{d:Option Tmp}{v:Value}(aD:T.length=n)(aJ:JA n d=true)(h:iz (Jx m d) ρ T):iz m (put ρ d v) (h5 T d v):=by
 cases d with
 | none=>exact h
 | some d=>
  have aJ:d<T.length:=by rw[aD];have:Nat.blt d n=true:=aJ;simp_all
  intro i aq;show b3 (gV T d v) i=cond (Nat.beq i d) v (ρ i);rw[OM aJ];by_cases he:d=i
  ·simp_all
  ·rw[if_neg he];have:Nat.beq i d=false:=by grind[Nat.eq_of_beq_eq_true]
   rw[this];refine h i ?_;show hX (FT m d) i=true
   simp_all[Wn]
theorem JJ{T:List Value}{d:Option Tmp}{v:Value}:(h5 T d v).length=T.length:=I1
theorem akO(l:List Operand)(ρ:eV):vj l ρ=l.map (eK · ρ):=by
 induction l with
 | nil=>rfl
 | cons x r bd=>simp_all[vj]
theorem ON{x:Operand}{ρ:eV}{T:List Value}(h:iz (Bb x) ρ T):(ee x).g T=eK x ρ:=by
 cases x with
 | tmp t=>exact h t (by show hX (Nat.shiftLeft 1 t) t=true;rw[Dz];simp)
 | _=>rfl
theorem OO{l:List Operand}{ρ:eV}{T:List Value}(h:iz (FR l) ρ T):∀x∈l,(ee x).g T=eK x ρ:=by
 induction l with
 | nil=>simp
 | cons x r bd=>
  have h:iz (Nat.lor (Bb x) (FR r)) ρ T:=h;intro y ba;rcases List.mem_cons.1 ba with rfl|ba
  ·exact ON h.or.1
  ·exact bd h.or.2 y ba
theorem F1{l:List Operand}{ρ:eV}{T:List Value}(h:∀x∈l,(ee x).g T=eK x ρ):kg l T=vj l ρ:=by simp_all[C9,akO]
theorem Wo{l:List (Nat×Operand)}{ρ:eV}{T:List Value}(h:∀p∈l,(ee p.2).g T=eK p.2 ρ):tP l T=Jv l ρ:=by
 induction l with
 | nil=>rfl
 | cons p r bd=>grind[tP,Jv]
theorem OP{o:Option Operand}{ρ:eV}{T:List Value}(h:∀x,o=some x->(ee x).g T=eK x ρ):Aq o T=Jw o ρ:=by
 cases o with
 | none=>rfl
 | some x=>show some _=some _;grind
section
variable{P:Program}[ep]
theorem wG{r:Option Value}{H:au}{aa:Value->au->Prop}(h:ae r fun v=>aa v H):∃v ab,gf H r=some (v,ab)/\aa v ab:=by obtain⟨v,rfl,ag⟩:=h;exact⟨v,H,rfl,ag⟩
theorem Wp{ar:List Value}{H:au}{aa:Value->au->Prop}(h:cO ar H aa):∃v ab,xf ar H=some (v,ab)/\aa v ab:=⟨_,_,rfl,h⟩
def akP:Op->Bool
 | .makeMap _ _=>true
 | .lookup _ _ _ _=>true
 | .mapUpdate _ _ _ _=>true
 | .insert _ _ _ _=>true
 | _=>false
theorem Wq{op:Op}{ρ:eV}{T:List Value}{H:au}{aa:Value->au->Prop}(jW:∀x∈op.operands.toList,(ee x).g T=eK x ρ)(Fz:∀c,op=.call c->∃b,c.callee=.builtin b)(FD:akP op=false)(h:FV P op ρ H aa):
  ∃v ab,(kh P op).f T H=some (v,ab)/\aa v ab:=by
 cases op<;>first|(cases FD;done)|skip
 all_goals (simp only[FV]at h<;>simp only[kh]<;>first|exact h.elim|skip)
 case move x=>grind[Op.operands]
 case assign x=>grind[Op.operands]
 case pick c a b=>
  obtain⟨v,hv,ag⟩:=h
  grind[Op.operands,aH]
 case alloc t=>grind[Wp]
 case box t x=>simp_all[Op.operands,Wp]
 case build t hD=>rw[Wo fun p bM=>jW p.2 (by grind[Op.operands])];exact wG h
 case buildSlice t len hD=>rw[Wo fun p bM=>jW p.2 (by grind[Op.operands])];exact h
 case load t a=>rw[jW a (by simp[Op.operands])];exact h
 case store t a x=>
  cases eu:gM P t with
  | some z=>rw[eu]at h;simp only;rw[jW a (by simp[Op.operands]),jW x (by simp[Op.operands])];exact h
  | none=>simp_all
 case nilCheck x=>simp_all[Op.operands,wG]
 case binOp o t x y z=>simp_all[Op.operands,wG]
 case unOp o t x=>simp_all[Op.operands,wG]
 case convert s d x=>rw[jW x (by simp[Op.operands])];exact h
 case makeInterface t x=>grind[Op.operands]
 case makeFunc fn first cap=>
  cases fn<;>first|exact h.elim|skip
  grind[F1,Op.operands]
 case makeSlice t l c=>rw[jW l (by simp[Op.operands]),jW c (by simp[Op.operands])];exact h
 case slice t x eZ aq gW=>rw[jW x (by simp[Op.operands]),OP fun y e=>jW y (by simp_all[Op.operands]),OP fun y e=>jW y (by simp_all[Op.operands]),OP fun y e=>jW y (by simp_all[Op.operands])];exact wG h
 case fieldAddr s x f=>simp_all[Op.operands,wG]
 case field t x f=>simp_all[Op.operands,wG]
 case indexAddr t x i=>simp_all[Op.operands,wG]
 case index t x i=>simp_all[Op.operands,wG]
 case typeAssert x t a ok=>simp_all[Op.operands,wG]
 case extract x i=>
  rw[jW x (by simp[Op.operands])];obtain⟨v,hv,ag⟩:=h;unfold eA at hv;split at hv
  ·rename_i bV he;rw[he];exact⟨v,H,by simp only[hv];rfl,ag⟩
  grind
 case call c=>obtain⟨b,an⟩:=Fz c rfl;rw[an]at h⊢;simp only at h⊢;rw[F1 fun z eu=>jW z (by simp_all[Op.operands,Call.operands])];exact h
theorem akQ{t:we}{H:au}{aa:Value->au->Prop}(h:xK P (some t) H aa):∃m v ab,tS (eM P m) (some t) H=some (v,ab)/\aa v ab:=by
 cases t with
 | fn f args=>
  obtain⟨n,cP,v,ab,ad,af⟩:=h
  grind[tS,Ic]
 | rk l args=>
  obtain⟨n,cP,v,ab,ad,af⟩:=h
  grind[tS,Ic]
theorem Wr{x:Option we}{H:au}{aa:Value->au->Prop}(h:xK P x H aa):∃m v ab,tS (eM P m) x H=some (v,ab)/\aa v ab:=by
 cases x with
 | none=>exact h.elim
 | some t=>exact akQ h
theorem OQ{op:Op}{ρ:eV}{T:List Value}{H:au}{aa:Value->au->Prop}(jW:∀x∈op.operands.toList,(ee x).g T=eK x ρ)(h:Du P op ρ H aa):
  ∃m v ab,(hU P op).f (eM P m) T H=some (v,ab)/\aa v ab:=by
 unfold Du at h;split at h
 case h_2=>grind
 case h_1 fC=>
 unfold hU;rw[fC];simp only;unfold xh;split
 ·rename_i c;split
  ·rename_i b an;obtain⟨v,ab,ad,af⟩:=Wq jW (fun cC e=>by simp_all) rfl h;exact⟨0,v,ab,ad,af⟩
  ·grind[FV,Op.operands,Call.operands,F1,Wr]
  grind[FV,Op.operands,Call.operands,F1,Wr]
 ·rename_i t r;cases r with
  | none=>exact⟨0,_,_,rfl,h⟩
  | some y=>exact h.elim
 ·rename_i t x i ok;obtain⟨v,ab,ad,af⟩:=h;refine⟨0,v,ab,?_,af⟩
  simp_all[Op.operands]
 ·rename_i t m k x;obtain⟨v,ab,ad,af⟩:=h;refine⟨0,v,ab,?_,af⟩
  simp_all[Op.operands]
 ·rename_i t m k x;obtain⟨v,ab,ad,af⟩:=h;refine⟨0,v,ab,?_,af⟩
  simp_all[Op.operands]
 ·rename_i dj F2 JK akR aBL;obtain⟨v,ab,ad,af⟩:=Wq jW (fun c e=>absurd e (dj c)) (by cases op<;>first|rfl|exact absurd rfl (F2 _ _)|exact absurd rfl (JK _ _ _ _)|exact absurd rfl (akR _ _ _ _)|grind) h;exact⟨0,v,ab,ad,af⟩
def vx(T:List Value)(d:Nat):kU->Prop
 | .mg=>b3 T d=.bool true
 | .kK=>b3 T d=.bool false
 | .undef=>b3 T d=Go.undef
 | .any=>True
def rA(dc:List (Nat×kU))(T:List Value):Prop:=∀d,vx T d (xL dc d)
theorem Ws(x:Nat×kU)(l:List (Nat×kU))(d:Nat):xL (x::l) d=if x.1=d then x.2 else xL l d:=by
 show cond (Nat.beq x.1 d) x.2 (xL l d)=_
 simp_all
theorem rA.cons{dc:List (Nat×kU)}{T:List Value}(h:rA dc T){d:Nat}{k:kU}(ag:vx T d k):rA ((d,k)::dc) T:=fun i=>by
 rw[Ws];split
 ·simp_all
 ·exact h i
theorem rA.put{dc:List (Nat×kU)}{T:List Value}{n:Nat}(aD:T.length=n){d:Option Tmp}(aJ:JA n d=true)(h:rA dc T){v:Value}{k:kU}(ag:∀dw x,b3 dw x=v->vx dw x k):rA (xM dc d k) (h5 T d v):=by
 cases d with
 | none=>exact h
 | some d=>
  have aJ:d<T.length:=by rw[aD];have:Nat.blt d n=true:=aJ;simp_all
  have kL:b3 (gV T d v) d=v:=by simp_all[OM]
  intro i;show vx (gV T d v) i (xL ((d,k)::dc) i);rw[Ws];split
  ·simp_all
  ·rename_i e;have e:¬d=i:=e;have aq:=h i;have bF:b3 (gV T d v) i=b3 T i:=by simp_all[OM]
   simp_all[vx]
theorem F3{dc:List (Nat×kU)}{T:List Value}(ag:rA dc T)(x:Operand):∀dw i,b3 dw i=(ee x).g T->vx dw i (wE dc x):=by
 intro dw i h;cases x with
 | tmp t=>
  have:=ag t;have h:b3 dw i=b3 T t:=h;show vx dw i (xL dc t)
  simp_all[vx]
 | const v=>
  cases v<;>first|trivial|skip
  rename_i b;cases b<;>exact h
 | _=>trivial
theorem OR{dc:List (Nat×kU)}{T:List Value}{m:Nat}{op:Op}{H ab:au}{v:Value}(ag:rA dc T)(h:(hU P op).f (eM P m) T H=some (v,ab)):∀dw i,b3 dw i=v->vx dw i (y5 dc op):=by
 intro dw i hv;cases op<;>first|trivial|skip
 case move x=>
  unfold hU at h;split at h
  ·cases h;exact F3 ag x dw i hv
  ·cases h
 case assign x=>
  unfold hU at h;split at h
  ·cases h;exact F3 ag x dw i hv
  ·cases h
 case pick c a b=>
  unfold hU at h;split at h
  case h_2=>cases h
  case h_1=>
  have h:(match (ee c).g T with|.bool t=>(match t with|true=>some ((ee a).g T,H)|false=>some ((ee b).g T,H))|_=>none)=some (v,ab):=h;have aA:=F3 ag c [(ee c).g T] 0 rfl;show vx dw i (match wE dc c with|.mg=>wE dc a|.kK=>wE dc b|_=>.any);cases hkc:wE dc c with
  | mg=>
   rw[hkc]at aA;rw[show(ee c).g T=.bool true from aA]at h
   grind[F3]
  | kK=>
   rw[hkc]at aA;rw[show(ee c).g T=.bool false from aA]at h
   grind[F3]
  | undef=>trivial
  | any=>trivial
theorem Wt{n:Nat}{all:List Oper}{o:Oper}{A B:List (Nat×kU)->Prop}{dc:List (Nat×kU)}{ρ:eV}{T:List Value}(ag:rA dc T)(jB:iz (FU all o.guard) ρ T)(h:Dv n all o A B dc ρ):
  JA n o.dst=true/\(((ie all o.guard).f T=true/\∃ew,rA ew T/\A ew)\/((ie all o.guard).f T=false/\∃ew,rA ew T/\B ew)):=by
 unfold Dv at h;split at h
 case h_1=>grind
 case h_2 aJ=>
 refine⟨aJ,?_⟩;cases hg:o.guard with
 | none=>rw[hg]at h;exact .inl ⟨rfl,dc,ag,h⟩
 | some A1=>
  obtain⟨j,cT⟩:=A1;rw[hg]at h jB;have aw:OF all (some (j,cT))=some ((ot all j).bind (·.dst),cT):=rfl;rw[aw]at h;simp only at h;have Jy:ot all j=all[j]?:=vb _ _;cases an:(all[j]?).bind (·.dst)with
  | none=>grind[ie]
  | some d=>
   rw[Jy,an]at h;simp only at h;have aM:(ie all (some (j,cT))).f T=(match b3 T d with|.bool b=>b==cT|_=>false):=by grind[ie]
   have qN:=ag d;have AQ:b3 T d=ρ d:=jB d (by grind[FU,Dz]);rw[aM];cases hgk:xL dc d with
   | mg=>
    rw[hgk]at h qN;rw[show b3 T d=.bool true from qN]
    grind
   | kK=>
    rw[hgk]at h qN;rw[show b3 T d=.bool false from qN]
    grind
   | undef=>rw[hgk]at h qN;rw[show b3 T d=Go.undef from qN];exact .inr ⟨rfl,dc,ag,h⟩
   | any=>
    rw[hgk]at h;rw[AQ];cases cT with
    | true=>
     obtain⟨ad,af,t,ht⟩:=(show aN (ρ d) (A ((d,.mg)::dc)) (B ((d,.kK)::dc))from h);rw[ht];cases t with
     | true=>exact .inl ⟨rfl,_,ag.cons (d:=d) (k:=.mg) (show b3 T d=.bool true from AQ.trans ht),ad ht⟩
     | false=>exact .inr ⟨rfl,_,ag.cons (d:=d) (k:=.kK) (show b3 T d=.bool false from AQ.trans ht),af ht⟩
    | false=>
     obtain⟨ad,af,t,ht⟩:=(show aN (ρ d) (B ((d,.mg)::dc)) (A ((d,.kK)::dc))from h);rw[ht];cases t with
     | true=>exact .inr ⟨rfl,_,ag.cons (d:=d) (k:=.mg) (show b3 T d=.bool true from AQ.trans ht),ad ht⟩
     | false=>exact .inl ⟨rfl,_,ag.cons (d:=d) (k:=.kK) (show b3 T d=.bool false from AQ.trans ht),af ht⟩
theorem OS{n N:Nat}{all:List Oper}{aa:eV->au->Prop}:∀(l:List Oper) (dc:List (Nat×kU)) (ρ:eV) (T:List Value) (H:au),T.length=n->iz (Dt all l N) ρ T->rA dc T->JB P n all l aa dc ρ H->
  ∃m o,jo P (eM P m) all l T H=some o/\o.cP=.normal/\o.T.length=n/\∃ kx,iz N kx o.T/\aa kx o.H
 | [],dc,ρ,T,H,aD,br,ag,h=>⟨0,_,rfl,rfl,aD,ρ,br,h⟩
 | o::l,dc,ρ,T,H,aD,br,ag,h=>by
  have br:iz (Nat.lor (Jx (Dt all l N) o.dst) (Nat.lor (FR o.op.operands.toList) (FU all o.guard))) ρ T:=br;have h:Dv n all o (fun ew=>Du P o.op ρ H fun v ab=>JB P n all l aa (xM ew o.dst (y5 ew o.op)) (put ρ o.dst v) ab) (fun ew=>JB P n all l aa (xM ew o.dst .undef) (put ρ o.dst undef) H) dc ρ:=h;obtain⟨dm,da⟩:=br.or;obtain⟨da,a3⟩:=da.or;obtain⟨aJ,hg⟩:=Wt ag a3 h;rcases hg with⟨aM,ew,gi,hA⟩|⟨aM,ew,gi,ck⟩
  ·obtain⟨fk,v,ab,ad,af⟩:=OQ (OO da) hA;obtain⟨dG,dt,bX,b7,g3,g4⟩:=OS l _ _ _ _ (JJ.trans aD) (F0 aD aJ dm) (gi.put aD aJ (k:=y5 ew o.op) (OR gi ad)) af;refine⟨max fk dG,dt,?_,b7,g3,g4⟩;show gE P (eM P (max fk dG)) o ((ie all o.guard).f T) T H (jo P (eM P (max fk dG)) all l)=some dt;rw[aM];unfold gE;simp only[Js (wD (Nat.le_max_left fk dG)) ad];exact Jt (wD (Nat.le_max_right fk dG)) _ _ _ _ _ bX
  ·obtain⟨dG,dt,bX,b7,g3,g4⟩:=OS l _ _ _ _ (JJ.trans aD) (F0 aD aJ dm) (gi.put aD aJ (k:=.undef) fun _ _ e=>e) ck;refine⟨dG,dt,?_,b7,g3,g4⟩;show gE P (eM P dG) o ((ie all o.guard).f T) T H (jo P (eM P dG) all l)=some dt;rw[aM];exact bX
theorem akS{k j:l2}{X:Prop}(h:Bd k j X):sX k j=true/\X:=by
 unfold Bd at h;unfold sX;split at h
 ·simp_all
 ·rename_i e;rw[e];simp only;split at h
  ·rename_i bF;rw[bF];exact h
  ·rename_i bF;rw[bF];exact h
  simp_all
 ·rename_i e;rw[e];simp only;split at h
  ·simp_all
  ·rename_i bF;rw[bF];exact h
  ·simp_all
  ·rename_i bF;rw[bF];exact h
  simp_all
 ·rename_i e;rw[e];simp only;split at h
  ·simp_all
  ·rename_i bF;rw[bF];exact h
  ·simp_all
  simp_all
 ·rename_i e;rw[e];simp only;split at h
  ·simp_all
  ·rename_i bF;rw[bF];exact⟨by simp only[Bool.and_eq_true];exact⟨h.1,h.2.1⟩,h.2.2⟩
  ·simp_all
  simp_all
 simp_all
theorem akT{p:na}{j:l2}{dC:List l2}{X:Prop}(h:JC p.lv j dC X):E9 p j dC=true/\X:=by
 unfold JC at h;unfold E9;split at h
 ·simp_all
 ·rename_i dj;have key:jT (fun k=>hX p.lv k.cL||sX k j) dC=true/\X:=by
   clear dj;rw[ki,List.all_eq_true];induction dC with
   | nil=>simp_all
   | cons k r bd=>
    have h:cond (hX p.lv k.cL) (List.rec (motive:=fun _=>Prop) X (fun k _ bd=>cond (hX p.lv k.cL) bd (Bd k j bd)) r) (Bd k j (List.rec (motive:=fun _=>Prop) X (fun k _ bd=>cond (hX p.lv k.cL) bd (Bd k j bd)) r)):=h
    grind[akS,Bd]
  simp_all
theorem akU{p:na}{o:Oper}{ρ:eV}{T:List Value}{H:au}{aa:Value->au->Prop}(jW:∀x∈o.op.operands.toList,(ee x).g T=eK x ρ)(h:JD P p o.op ρ H aa):
  ∃m v ab,sY P (eM P m) o p T H=some (v,ab)/\aa v ab/\∀ew,rA ew T->∀dw i,b3 dw i=v->vx dw i (y5 ew o.op):=by
 unfold JD at h;unfold sY;cases an:p.lK with
 | true=>rw[an]at h;obtain⟨m,v,bw,ad,af,ax⟩:=OQ jW h;refine⟨m,v,H,?_,ax,fun ew gi=>OR gi ad⟩;show Fa H ((hU P o.op).f (eM P m) T (lK H))=_;rw[ad];unfold Fa;simp only;rw[show Nat.beq bw.next H.next=true from af]
 | false=>
  rw[an]at h;obtain⟨m,v,ab,ad,af⟩:=OQ jW h
  grind[OR]
theorem OT{n N:Nat}{all:List Oper}{aa:eV->au->Prop}:∀(l:List (Oper×na)) (dc:List (Nat×kU)) (ρ:eV) (T:List Value) (H:au) (dC:List l2),T.length=n->iz (Dt all (l.map (·.1)) N) ρ T->rA dc T->JE P n all l aa dc ρ H dC->
  ∃m o,p6 P (eM P m) all l T H dC=some o/\o.cP=.normal/\o.T.length=n/\∃ kx,iz N kx o.T/\aa kx o.H
 | [],dc,ρ,T,H,dC,aD,br,ag,h=>⟨0,_,rfl,rfl,aD,ρ,br,h⟩
 |(o,p)::l,dc,ρ,T,H,dC,aD,br,ag,h=>by
  have br:iz (Nat.lor (Jx (Dt all (l.map (·.1)) N) o.dst) (Nat.lor (FR o.op.operands.toList) (FU all o.guard))) ρ T:=br;have h:Dv n all o (fun ew=>JD P p o.op ρ H fun v ab=>JC p.lv (Dw o p ρ H ab) dC (JE P n all l aa (xM ew o.dst (y5 ew o.op)) (put ρ o.dst v) ab (Dw o p ρ H ab::dC)))
   (fun ew=>JE P n all l aa (xM ew o.dst .undef) (put ρ o.dst undef) H dC) dc ρ:=h
  obtain⟨dm,da⟩:=br.or;obtain⟨da,a3⟩:=da.or;obtain⟨aJ,hg⟩:=Wt ag a3 h;rcases hg with⟨aM,ew,gi,hA⟩|⟨aM,ew,gi,ck⟩
  ·obtain⟨fk,v,ab,ad,af,rB⟩:=akU (OO da) hA;obtain⟨gr,fZ⟩:=akT af;have F4:Dw o p ρ H ab=sW o p T H ab:=by unfold Dw sW;rw[F1 (OO da)];rfl
   rw[F4]at gr fZ;obtain⟨dG,dt,bX,b7,g3,g4⟩:=OT l _ _ _ _ _ (JJ.trans aD) (F0 aD aJ dm) (gi.put aD aJ (k:=y5 ew o.op) (rB _ gi)) fZ;refine⟨max fk dG,dt,?_,b7,g3,g4⟩;show rl P (eM P (max fk dG)) o p ((ie all o.guard).f T) T H dC (p6 P (eM P (max fk dG)) all l)=some dt;rw[aM];have fT:sY P (eM P (max fk dG)) o p T H=some (v,ab):=Wb (wD (Nat.le_max_left fk dG)) ad;unfold rl;simp only[fT,gr];exact Ju (wD (Nat.le_max_right fk dG)) _ _ _ _ _ _ bX
  ·obtain⟨dG,dt,bX,b7,g3,g4⟩:=OT l _ _ _ _ _ (JJ.trans aD) (F0 aD aJ dm) (gi.put aD aJ (k:=.undef) fun _ _ e=>e) ck;refine⟨dG,dt,?_,b7,g3,g4⟩;show rl P (eM P dG) o p ((ie all o.guard).f T) T H dC (p6 P (eM P dG) all l)=some dt;rw[aM];exact bX
theorem akV(l:List Oper):(r6 P l).map (·.1)=l:=by
 unfold r6 Ih;rw[List.map_map];apply List.ext_getElem?
 grind[Vk,Vl]
theorem akW{n N:Nat}{bA:List Oper}{d:Bool}{ρ:eV}{T:List Value}{H:au}{aa:eV->au->Prop}(aD:T.length=n)(br:iz (Dt bA bA N) ρ T)(h:OI P n bA d ρ H aa):
  ∃m o,(match d with|true=>ox P (eM P m) bA T H|false=>jo P (eM P m) bA bA T H)=some o/\o.cP=.normal/\o.T.length=n/\∃ kx,iz N kx o.T/\aa kx o.H:=by
 unfold OI at h;have gO:rA [] T:=fun d=>trivial
 cases d with
 | false=>grind[OS]
 | true=>grind[OT,akV,ox]
theorem akX(ρ:eV)(l:List Nat):qR ρ l=l.map ρ:=by
 induction l with
 | nil=>rfl
 | cons i r bd=>simp_all[qR]
theorem OU(l:List Value):∀(kk:List Nat) (p i:Nat),(∀k,kk[k]?=some i->(∀j,j<k->kk[j]?≠some i)->FQ l kk p i=b3 l (p+k))/\(i∉kk->FQ l kk p i=undef)
 | [],p,i=>⟨fun k h=>by simp at h,fun _=>rfl⟩
 | x::r,p,i=>by
  obtain⟨ad,af⟩:=OU l r (Nat.succ p) i;have e:FQ l (x::r) p i=cond (Nat.beq i x) (b3 l p) (FQ l r (Nat.succ p) i):=rfl;refine⟨fun k ag bp=>?_,fun aX=>?_⟩
  ·rw[e];cases an:Nat.beq i x with
   | true=>grind[Nat.eq_of_beq_eq_true]
   | false=>
    have Dj:=Nat.ne_of_beq_eq_false an;cases k with
    | zero=>simp_all
    | succ k=>grind
  grind[Nat.eq_of_beq_eq_true]
theorem akY{l:List Nat}{i:Nat}(h:i∈l):∃k:Nat,l[k]?=some i/\∀j,j<k->l[j]?≠some i:=by
 induction l with
 | nil=>cases h
 | cons x r bd=>
  by_cases ao:x=i
  ·exact⟨0,by simp[ao],fun j bp=>by omega⟩
  ·obtain⟨k,ad,af⟩:=bd (by grind);refine⟨k+1,by simp_all,fun j bp=>?_⟩
   grind
theorem Wu(ρ:eV)(kk:List Nat)(i:Nat):ml kk (qR ρ kk) i=if i∈kk then ρ i else undef:=by
 unfold ml;obtain⟨ad,af⟩:=OU (qR ρ kk) kk 0 i;split
 ·rename_i h;obtain⟨k,a,b⟩:=akY h;rw[ad k a b,akX,o0,List.getD_eq_getElem?_getD,List.getElem?_map,Nat.zero_add,a];rfl
 simp_all
theorem Wv(m:Nat):∀(n:Nat) (jr:List Nat) (i:Nat),i∈(Nat.rec (motive:=fun _=>List Nat->List Nat) (fun jr=>jr) (fun k bd jr=>bd (cond (hX m k) (k::jr) jr)) n jr)↔i∈jr\/(i<n/\hX m i=true)
 | 0,jr,i=>by show i∈jr↔_;simp
 | n+1,jr,i=>by
  have:=Wv m n (cond (hX m n) (n::jr) jr) i
  grind
theorem JL{n m i:Nat}:i∈bits n m↔i<n/\hX m i=true:=by simp_all[bits,Wc,Wv]
theorem akZ{n m:Nat}{ρ:eV}{T:List Value}(aD:T.length=n)(h:iz m ρ T):iz m (ml (bits n m) (qR ρ (bits n m))) T:=fun i aq=>by
 rw[Wu];split
 ·exact h i aq
 simp_all[o0,JL]
theorem JM{n m:Nat}{ρ:eV}{T:List Value}(h:iz m ρ T):xN (bits n m) (ml (bits n m) (qR ρ (bits n m))) T:=fun i aq=>by rw[Wu,if_pos aq];exact h i (JL.1 aq).2
theorem OV{n m:Nat}{l:List Value}{T:List Value}(aD:T.length=n)(h:xN (bits n m) (ml (bits n m) l) T):iz m (ml (bits n m) l) T:=fun i aq=>by
 by_cases aX:i<n
 ·exact h i (JL.2 ⟨aX,aq⟩)
 ·have ad:b3 T i=undef:=by simp_all[o0]
  rw[ad];exact((OU l (bits n m) 0 i).2 fun aV=>aX (JL.1 aV).1).symm
def ak0(N X:Nat):mW->Nat
 | .normal=>N
 | _=>X
theorem F5(de:Bool)(n:Nat):∀(c:Code) (N X:Nat) (ρ:eV) (T:List Value) (H:au) (Q:mW->eV->au->Prop),T.length=n->iz (fa c N X) ρ T->qh P de n c N X ρ H Q->
  ∃m o,(dr P de c).f (eM P m) T H=some o/\o.T.length=n/\∃ kx,iz (ak0 N X o.cP) kx o.T/\Q o.cP kx o.H:=by
 intro c;induction c with
 | skip=>intro N X ρ T H Q aD br h;exact⟨0,_,rfl,aD,ρ,br,h⟩
 | region id bA d=>intro N X ρ T H Q aD br h;obtain⟨m,o,ad,af,ax,kx,aO,bl⟩:=akW (d:=d) aD br h;refine⟨m,o,?_,ax,kx,by rw[af];exact aO,by simp_all⟩;cases d<;>exact ad
 | seq a b vw mm=>
  intro N X ρ T H Q aD br h;have h:(match Wf a b with
   | true=>fO (fun J=>qh P de n a (fa b N X) X ρ H (FX (fun ρ H=>J (qR ρ (bits n (fa b N X))) H) Q)) (fun l H=>qh P de n b N X (ml (bits n (fa b N X)) l) H Q)
   | false=>qh P de n a (fa b N X) X ρ H (FX (fun ρ H=>qh P de n b N X ρ H Q) Q)):=h
  have key:∃J:eV->au->Prop,qh P de n a (fa b N X) X ρ H (FX J Q)/\∀ y8 ft bw,ft.length=n->iz (fa b N X) y8 ft->J y8 bw->∃ JN,iz (fa b N X) JN ft/\qh P de n b N X JN bw Q:=by
   split at h
   ·obtain⟨J,hA,ck⟩:=h
    grind[akZ]
   grind
  obtain⟨J,hA,ck⟩:=key;obtain⟨fk,bW,ad,af,y8,ax,aO⟩:=vw _ _ _ _ _ _ aD br hA;obtain⟨e,ft,bw⟩:=bW;cases e with
  | normal=>obtain⟨JN,bl,bL⟩:=ck y8 ft bw af ax aO;obtain⟨dG,dt,bX,b7,ak1,g3,g4⟩:=mm _ _ _ _ _ _ af bl bL;refine⟨max fk dG,dt,?_,b7,ak1,g3,g4⟩;show nb ((dr P de a).f (eM P (max fk dG)) T H) (fun T H=>(dr P de b).f (eM P (max fk dG)) T H)=some dt;rw[wC (wD (Nat.le_max_left fk dG)) de _ _ _ _ ad];exact wC (wD (Nat.le_max_right fk dG)) de _ _ _ _ bX
  | exit id=>
   refine⟨fk,⟨.exit id,ft,bw⟩,?_,af,y8,ax,aO⟩
   grind[nb,dr]
  | ret=>
   refine⟨fk,⟨.ret,ft,bw⟩,?_,af,y8,ax,aO⟩
   grind[nb,dr]
 | cond c a b vw mm=>
  intro N X ρ T H Q aD br h;have br:iz (Nat.lor (Bb c) (Nat.lor (fa a N X) (fa b N X))) ρ T:=br;obtain⟨dm,da⟩:=br.or;obtain⟨da,a3⟩:=da.or;obtain⟨ad,af,t,ht⟩:=(show aN (eK c ρ) (qh P de n a N X ρ H Q) (qh P de n b N X ρ H Q)from h);cases t with
  | true=>grind[oZ,dr,ON]
  | false=>grind[oZ,dr,ON]
 | block id b mm=>
  intro N X ρ T H Q aD br h;obtain⟨m,o,bX,b7,kx,g3,g4⟩:=mm _ _ _ _ _ _ aD br (show qh P de n b N (Nat.lor N X) ρ H (Wg id Q)from h);obtain⟨e,ft,bw⟩:=o;have JO:∀dv,Az id (some ⟨e,ft,bw⟩)=some dv->(dr P de (.block id b)).f (eM P m) T H=some dv:=fun dv bJ=>by grind[dr]
  cases e with
  | normal=>exact⟨m,_,JO _ rfl,b7,kx,g3,g4⟩
  | ret=>exact⟨m,_,JO _ rfl,b7,kx,(show iz (Nat.lor N X) kx ft from g3).or.2,g4⟩
  | exit i=>
   have g3:iz (Nat.lor N X) kx ft:=g3;have g4:cond (Nat.beq i id) (Q .normal kx bw) (Q (.exit i) kx bw):=g4;cases an:Nat.beq i id with
   | true=>
    rw[an]at g4;refine⟨m,⟨.normal,ft,bw⟩,JO _ ?_,b7,kx,g3.or.1,g4⟩
    simp_all[Az]
   | false=>
    rw[an]at g4;refine⟨m,⟨.exit i,ft,bw⟩,JO _ ?_,b7,kx,g3.or.2,g4⟩
    simp_all[Az]
 | loop b _=>
  intro N X ρ T H Q aD br h;have h:(match Nat.beq (fa b (fa b 0 X) X) (fa b 0 X)with
   | true=>fw P de n b X (qR ρ (bits n (fa b 0 X))) H (fun id l H=>Q (.exit id) (ml (bits n X) l) H) (fun l H=>Q .ret (ml (bits n X) l) H)
   | false=>False):=h
  split at h
  case h_2=>grind
  case h_1=>
  obtain⟨m,o,bX,b7,l,g4,g5⟩:=h T aD (JM (m:=fa b 0 X) br);have:=OV b7 g4;obtain⟨e,ft,bw⟩:=o;cases e with
  | normal=>exact(show False from g5).elim
  | exit id=>exact⟨m,_,bX,b7,ml (bits n X) l,this,g5⟩
  | ret=>exact⟨m,_,bX,b7,ml (bits n X) l,this,g5⟩
 | exit id=>intro N X ρ T H Q aD br h;exact⟨0,_,rfl,aD,ρ,br,h⟩
 | label l=>intro N X ρ T H Q aD br h;exact⟨0,_,rfl,aD,ρ,br,h⟩
 | ret=>intro N X ρ T H Q aD br h;exact⟨0,_,rfl,aD,ρ,br,h⟩
 | rangeFunc g bz cX body _ _=>
  intro N X ρ T H Q aD br h;cases de with
  | false=>exact(show False from h).elim
  | true=>
   have h:FY P n bz.toList cX body (qR ρ (bits n (sj cX body))) (OK g ρ) H (Q .normal ρ) (fun id=>Q (.exit id) ρ) (Q .ret ρ):=h;have br:iz (Nat.lor (Bb g) (Nat.lor (Nat.lor N X) (sj cX body))) ρ T:=br;obtain⟨dm,da⟩:=br.or;obtain⟨da,a3⟩:=da.or;obtain⟨da,a4⟩:=da.or;obtain⟨m,o,bX,b7,g3⟩:=h T aD (JM a3);have hg:(CJ g).g T=OK g ρ:=by
    cases g with
    | tmp t=>exact dm t (by show hX (Nat.shiftLeft 1 t) t=true;rw[Dz];simp)
    | _=>rfl
   refine⟨m,o,?_,by simp_all,ρ,?_,?_⟩
   ·show u7 (eM P m) ((CJ g).g T) bz.toList cX body T H=some o
    simp_all
   ·rw[b7];cases o.cP with
    | normal=>exact da
    | exit id=>exact a4
    | ret=>exact a4
   ·revert g3;cases o.cP with
    | normal=>exact fun h=>h
    | exit id=>exact fun h=>h
    | ret=>exact fun h=>h
 | _=>intros;rename_i h;exact h.elim
theorem Ww:∀(bz:List Tmp) (args T:List Value),(u5 T bz args).length=T.length
 | [],args,T=>by cases args<;>rfl
 | _::_,[],T=>rfl
 | p::bz,v::bV,T=>by show(u5 (gV T p v) bz bV).length=_;rw[Ww,o1,List.length_set]
theorem Wx{n:Nat}(args:List Value):∀(bz:List Tmp) (k:Nat) (dP:List Value) (T:List Value) (ρ:eV) (m:Nat),T.length=n->(∀p∈bz,p<n)->dP.length=bz.length->(∀i,b3 args (k+i)=b3 dP i)->iz m ρ T->iz m (JF bz args k ρ) (u5 T bz dP)
 | [],k,dP,T,ρ,m,aD,bM,U,aX,br=>by cases dP<;>exact br
 | p::bz,k,[],T,ρ,m,aD,bM,U,aX,br=>by simp at U
 | p::bz,k,v::bV,T,ρ,m,aD,bM,U,aX,br=>by
  show iz m (JF bz args (k+1) (put ρ (some p) (b3 args k))) (u5 (gV T p v) bz bV);have aR:b3 args k=v:=by have:=aX 0;rw[Nat.add_zero]at this;exact this
  refine Wx args bz (k+1) bV _ _ m (by simp_all[o1]) (fun q b5=>bM q (by simp[b5])) (by simp_all) (fun i=>by have:=aX (i+1);rw[show k+1+i=k+(i+1) by omega];exact this) ?_;rw[aR];refine F0 (d:=some p) (n:=n) aD ?_ ?_
  ·show Nat.blt p n=true
   simp_all
  ·intro i aq;have aq:hX (FT m p) i=true:=aq;rw[Wn,Bool.and_eq_true]at aq;exact br i aq.1
theorem ak2{n:Nat}{bz:List Tmp}{cX body:Code}{lS args T:List Value}{l:Nat}{H:au}{aa:Value->au->Prop}(aD:eH H.dO l=some ⟨T,bz,cX,body,.ready⟩)(bk:T.length=n)
  (jB:xN (bits n (sj cX body)) (ml (bits n (sj cX body)) lS) T) (hlen:args.length=bz.length) (uj:∀p∈bz,p<n) (h:JG P n bz cX body lS args l H aa):xJ P (.round l args H) aa:=by
 have ak3:iz (sj cX body) (JF bz args 0 (ml (bits n (sj cX body)) lS)) (u5 T bz args):=Wx args bz 0 args T _ _ bk uj hlen (fun i=>by simp_all) (OV bk jB);obtain⟨fk,bW,bX,b7,y8,g3,g4⟩:=F5 false n cX (fa body 0 0) 0 _ _ H _ (by grind[Ww]) ak3 h;obtain⟨bn,ft,bw⟩:=bW;cases bn with
 | exit id=>exact(show False from g4).elim
 | ret=>exact(show False from g4).elim
 | normal=>
  obtain⟨cD,fj,fl⟩:=(show FZ l bw (fun H=>qh P false n body 0 0 y8 H fun e _ H=>Dx l e H aa)from g4);obtain⟨dG,dt,eJ,hx,JN,oE,F6⟩:=F5 false n body 0 0 _ ft cD _ b7 g3 fl;obtain⟨bF,OW,iM⟩:=dt;obtain⟨ui,db,cp⟩:=(show Dx l bF iM aa from F6);refine⟨max fk dG+1,.ret,.bool (yM bF),ui,?_,cp⟩;show wh P (eM P (max fk dG)) l args H=_;unfold wh;rw[aD];simp only[gX,hlen,Nat.beq_refl];rw[wC (wD (Nat.le_max_left fk dG)) false _ _ _ _ bX];show(match AA l bw with|some cD=>Fc l ((dr P false body).f (eM P (max fk dG)) ft cD)|none=>none)=_
  grind[wC,wD,Nat.le_max_right,Fc]
theorem ak4{de:Bool}{n:Nat}{b:Code}{X:Nat}{bY:Nat->List Value->au->Prop}{c9:List Value->au->Prop}(aBM:fa b (fa b 0 X) X=fa b 0 X)(I:Nat->List Value->au->Prop)
  (aw:∀k l H,I k l H->qh P de n b (fa b 0 X) X (ml (bits n (fa b 0 X)) l) H (Wh n b X (fun l H=>∃fh,fh<k/\I fh l H) bY c9)):∀k l H,I k l H->fw P de n b X l H bY c9:=by
 intro k;induction k using Nat.strongRecOn with
 | ind k bd=>
  intro l H ja T aD br;obtain⟨m,o,ad,af,kx,ax,aO⟩:=F5 de n b _ _ _ T H _ aD (by simp_all[OV]) (aw k l H ja);obtain⟨e,ft,bw⟩:=o;have Wy:e≠.normal->OJ bY c9 e (qR kx (bits n X)) bw->iz X kx ft->∃m o,eM P m (.loop de b T H)=some o/\o.T.length=n/\∃l,xN (bits n X) (ml (bits n X) l) o.T/\OJ bY c9 o.cP l o.H:=by intro he b5 jB;refine⟨m+1,⟨e,ft,bw⟩,?_,af,_,JM jB,b5⟩;show nb ((dr P de b).f (eM P m) T H) (fun T H=>eM P m (.loop de b T H))=_;rw[ad];cases e<;>first|exact absurd rfl he|rfl
  cases e with
  | normal=>obtain⟨fh,ag,ak5⟩:=aO;obtain⟨dG,dt,bX,b7⟩:=bd fh ag _ _ ak5 ft af (JM ax);refine⟨max m dG+1,dt,?_,b7⟩;show nb ((dr P de b).f (eM P (max m dG)) T H) (fun T H=>eM P (max m dG) (.loop de b T H))=_;rw[wC (wD (Nat.le_max_left m dG)) de _ _ _ _ ad];exact wD (Nat.le_max_right m dG) _ _ bX
  | exit id=>exact Wy (by simp) aO ax
  | ret=>exact Wy (by simp) aO ax
theorem Wz{r:ResultVar}{ρ:eV}{T:List Value}{H:au}{aa:Value->Prop}(br:iz (JI r) ρ T)(h:JH P r ρ H aa):∃v,CP P T H r=some v/\aa v:=by
 cases r with
 | tmp t=>exact⟨b3 T t,rfl,by rw[br t (by show hX (Nat.shiftLeft 1 t) t=true;rw[Dz];simp)];exact h⟩
 | cell a t=>obtain⟨v,ab,ad,af⟩:=h;refine⟨v,?_,af⟩;unfold CP;simp only[br a (by show hX (Nat.shiftLeft 1 a) a=true;rw[Dz];simp),ad]
theorem WA{ρ:eV}{T:List Value}{H:au}:∀(dC:List ResultVar) (k:List Value->Prop),iz (wF dC) ρ T->OL P dC ρ H k->∃bV,yK P T H dC=some bV/\k bV
 | [],k,_,h=>⟨[],rfl,h⟩
 | r::dC,k,br,h=>by obtain⟨dm,da⟩:=(show iz (Nat.lor (JI r) (wF dC)) ρ T from br).or;obtain⟨v,ad,af⟩:=Wz dm (show JH P r ρ H fun v=>OL P dC ρ H fun bV=>k (v::bV)from h);obtain⟨bV,ax,aO⟩:=WA dC _ da af;exact⟨v::bV,by unfold yK;simp only[ad,ax],aO⟩
theorem WB{dC:List ResultVar}{ρ:eV}{T:List Value}{H:au}{aa:Value->au->Prop}(br:iz (wF dC) ρ T)(h:Dy P dC ρ H aa):∃v,yL P dC T H=some v/\aa v H:=by
 unfold Dy at h;unfold yL;split at h
 ·rename_i r;obtain⟨dm,_⟩:=(show iz (Nat.lor (JI r) (wF [])) ρ T from br).or;exact Wz dm h
 grind[WA]
noncomputable def F7(P:Program)(c:Code)(f:FuncId)(args:List Value)(H:au)(aa:Value->au->Prop):Prop:=match P.funcs.toList[f]? with
 | some fn=>match Nat.ble (fE args) fn.ntmps&&Nat.ble (fE args) (fn.params.size+fn.nfree)with
  | true=>qh P true fn.ntmps c (wF fn.results.toList) (wF fn.results.toList) (fun i=>b3 args i) H (Wl P fn.results.toList aa)
  | false=>False
 | none=>False
theorem DA{f:FuncId}{args:List Value}{H:au}{aa:Value->au->Prop}(eT:ep.lf f args H=none)(h:y7 P f args H aa)(an:ep.oG f=none:=by rfl):wCall P f args H aa:=by
 unfold y7 at h;split at h
 case h_2=>grind
 case h_1 fn hf=>
 split at h
 case h_2=>grind
 case h_1 c aA=>
 split at h
 case h_2=>grind
 case h_1 hlen=>
 rw[l3,gX]at hlen;have hlen:=of_decide_eq_true hlen;have bk:(hT args (fS (fn.ntmps-fE args) [undef])).length=fn.ntmps:=by simp_all[iF,y0,gX]
 have aX:∀i,b3 (hT args (fS (fn.ntmps-fE args) [undef])) i=b3 args i:=by grind[iF,y0,o0]
 obtain⟨m,o,ad,af,kx,ax,aO⟩:=F5 true fn.ntmps c _ _ _ _ H _ bk (fun i _=>aX i) h;obtain⟨e,ft,bw⟩:=o;have eC:e≠.exit 0->(∀id,e≠.exit id)->iz (wF fn.results.toList) kx ft->Dy P fn.results.toList kx bw aa->wCall P f args H aa:=by
  intro _ ao jB U;obtain⟨v,bX,b7⟩:=WB jB U;refine⟨m+1,.ret,v,bw,?_,b7⟩;show(match ep.lf f args H with|some v=>some (⟨.ret,[v],H⟩:ef)|none=>match ep.oG f with|some c=>ry P f c (eM P m) args H|none=>(tU P f).f (eM P m) args H)=_
  simp_all[tU,va]
 cases e with
 | normal=>exact eC (by simp) (by simp) ax aO
 | exit id=>exact(show False from aO).elim
 | ret=>exact eC (by simp) (by simp) ax aO
theorem OX{c:Code}{f:FuncId}{args:List Value}{H:au}{aa:Value->au->Prop}(eT:ep.lf f args H=none)(h:F7 P c f args H aa)(an:ep.oG f=some c:=by rfl):wCall P f args H aa:=by
 unfold F7 at h;split at h
 case h_2=>grind
 case h_1 fn hf=>
 split at h
 case h_2=>grind
 case h_1 hlen=>
 rw[Bool.and_eq_true]at hlen;have kP:=hlen.2;have hlen:=hlen.1;rw[l3,gX]at hlen;have hlen:=of_decide_eq_true hlen;have bk:(hT args (fS (fn.ntmps-fE args) [undef])).length=fn.ntmps:=by simp_all[iF,y0,gX]
 have aX:∀i,b3 (hT args (fS (fn.ntmps-fE args) [undef])) i=b3 args i:=by grind[iF,y0,o0]
 obtain⟨m,o,ad,af,kx,ax,aO⟩:=F5 true fn.ntmps c _ _ _ _ H _ bk (fun i _=>aX i) h;obtain⟨e,ft,bw⟩:=o;have eC:e≠.exit 0->(∀id,e≠.exit id)->iz (wF fn.results.toList) kx ft->Dy P fn.results.toList kx bw aa->wCall P f args H aa:=by
  intro _ ao jB U;obtain⟨v,bX,b7⟩:=WB jB U;refine⟨m+1,.ret,v,bw,?_,b7⟩;show(match ep.lf f args H with|some v=>some (⟨.ret,[v],H⟩:ef)|none=>match ep.oG f with|some c=>ry P f c (eM P m) args H|none=>(tU P f).f (eM P m) args H)=_;rw[eT,an];simp only;unfold ry;rw[hf];simp only;rw[ad];unfold va
  grind
 cases e with
 | normal=>exact eC (by simp) (by simp) ax aO
 | exit id=>exact(show False from aO).elim
 | ret=>exact eC (by simp) (by simp) ax aO
end
end Go.Ab
namespace Go.Ab
open Go
local instance:hy:=⟨fun _=>none,0⟩
abbrev ak(p o:Nat):Value:=.pointer (some ⟨p,o,none⟩)
abbrev int(n:Int):Value:=.int .i64 n
abbrev aF(p o n c:Nat):Value:=.slice (some ⟨p,o,none⟩) n c
abbrev bB:Value:=.slice none 0 0
section pure
variable{P:Program}{H:au}{k:IntKind}
theorem OY{v:Value}{H:au}{aa:Value->au->Prop}:ah (some (v,H)) aa=aa v H:=by grind[ah]
theorem WC{A B:Prop}:aN (.bool true) A B=A:=by simp_all[aN]
theorem WD{A B:Prop}:aN (.bool false) A B=B:=by simp_all[aN]
theorem sk{b:Bool}{A B:Prop}(ad:b=true->A)(af:b=false->B):aN (.bool b) A B:=
 ⟨fun e=>ad (by grind),fun e=>af (by grind),b,rfl⟩
theorem bT{p:Prop}[Decidable p]{A B:Prop}(ad:p->A)(af:¬p->B):aN (.bool (decide p)) A B:=
 sk (fun h=>ad (of_decide_eq_true h)) (fun h=>af (of_decide_eq_false h))
theorem mI{a b:Value}:aH (.bool true) a b=some a:=rfl
theorem qi{a b:Value}:aH (.bool false) a b=some b:=rfl
theorem WE{a:Addr}:r3 (.pointer (some a))=some (.pointer (some a)):=rfl
theorem ed{o p q:Nat}:cB o (ak p q)=some (ak p (q+o)):=rfl
theorem cR{v:Value}{l:List Value}:b3 (v::l) 0=v:=rfl
theorem cS{v:Value}{l:List Value}{n:Nat}:b3 (v::l) (n+1)=b3 l n:=rfl
theorem xO{a:Option Addr}{n c:Nat}{H:au}:cG (.slice a n c) H=some (.int .i64 n,H):=rfl
theorem WG:tK k k=true:=by cases k<;>rfl
theorem qT{op:BinOp}{t:TypeId}{c:Bool}(a b:Int)(h:CC op=none):(ay P op t c).f (.int k a) (.int k b)=HY op k a b:=by simp_all[ay,WG]
variable{t:TypeId}{c:Bool}{a b:Int}
theorem WH:(ay P .add t c).f (.int k a) (.int k b)=some (.int k (iY k (a+b))):=qT a b rfl
theorem WI:(ay P .sub t c).f (.int k a) (.int k b)=some (.int k (iY k (a-b))):=qT a b rfl
theorem WJ:(ay P .mul t c).f (.int k a) (.int k b)=some (.int k (iY k (a*b))):=qT a b rfl
theorem fz:(ay P .eql t c).f (.int k a) (.int k b)=some (.bool (decide (a=b))):=by rw[qT a b rfl];show some (Value.bool (oW a b))=_;rw[rm]
theorem jh:(ay P .neq t c).f (.int k a) (.int k b)=some (.bool (decide (a≠b))):=by rw[qT a b rfl];show some (Value.bool (not (oW a b)))=_;rw[rm];simp
theorem gj:(ay P .lss t c).f (.int k a) (.int k b)=some (.bool (decide (a<b))):=by rw[qT a b rfl];show some (Value.bool (not (kf b a)))=_;grind[ly]
theorem sl:(ay P .gtr t c).f (.int k a) (.int k b)=some (.bool (decide (b<a))):=by rw[qT a b rfl];show some (Value.bool (not (kf a b)))=_;grind[ly]
theorem OZ:(ay P .leq t c).f (.int k a) (.int k b)=some (.bool (decide (a<=b))):=by rw[qT a b rfl];show some (Value.bool (kf a b))=_;rw[ly]
theorem uk:(ay P .geq t c).f (.int k a) (.int k b)=some (.bool (decide (b<=a))):=by rw[qT a b rfl];show some (Value.bool (kf b a))=_;rw[ly]
theorem jt{b:Bool}:hE .not (.bool b)=some (.bool !b):=rfl
theorem ak6:px [.int k a,.int k b]=some (.int k (min a b)):=by
 show some (Value.int k (cond (kf a b) a b))=_
 grind[ly]
theorem ak7:p5 [.int k a,.int k b]=some (.int k (max a b)):=by
 show some (Value.int k (cond (kf b a) a b))=_
 grind[ly]
theorem y9{n:Int}(ad:-9223372036854775808<=n)(af:n<=9223372036854775807):iY .i64 n=n:=by
 show tL 9223372036854775808 18446744073709551616 n=n;unfold tL;cases n with
 | ofNat m=>grind[blt_eq]
 | negSucc m=>grind[blt_eq]
theorem ky{p o n c size:Nat}{i:Int}(aR:0<=i)(ad:i<n):iu size (aF p o n c) (.int k i)=some (ak p (o+i.toNat*size)):=by
 show eQ n size (ak p o) (.int k i)=_;unfold eQ;have bn:kf 0 i=true:=by simp_all[ly]
 have bF:Nat.blt i.toNat n=true:=by simp_all
 simp only[bn,bF];rfl
theorem fA{p o n size:Nat}{i:Int}(aR:0<=i)(ad:i<n):eQ n size (ak p o) (.int k i)=some (ak p (o+i.toNat*size)):=by
 unfold eQ;have bn:kf 0 i=true:=by simp_all[ly]
 have bF:Nat.blt i.toNat n=true:=by simp_all
 simp only[bn,bF];rfl
end pure
namespace Tr
variable{α:Type}
def qj:Tr α->Nat->Prop
 | .nil,_=>False
 | .k6 _ _ _,0=>True
 | .k6 l _ r,k+1=>if k%2=0 then qj l (k/2)else qj r (k/2)
def rC(t:Tr α)(N:Nat):Prop:=∀m,m<N->qj t m
theorem WK(l r:Tr α)(x v:Option α)(n:Nat):(Tr.k6 l x r).set (n+1) v=if n%2=0 then .k6 (l.set (n/2) v) x r else .k6 l x (r.set (n/2) v):=by
 have e:(Tr.k6 l x r).set (n+1) v=cond (Nat.beq (Nat.mod n 2) 0) (.k6 (l.set (Nat.div n 2) v) x r) (.k6 l x (r.set (Nat.div n 2) v)):=rfl;rw[e];cases h:Nat.beq (Nat.mod n 2) 0 with
 | true=>rw[if_pos (show n%2=0 from Nat.eq_of_beq_eq_true h)];rfl
 | false=>rw[if_neg (show¬n%2=0 from Nat.ne_of_beq_eq_false h)];rfl
theorem WL(l r:Tr α)(x:Option α)(n:Nat):(Tr.k6 l x r).get (n+1)=if n%2=0 then l.get (n/2)else r.get (n/2):=by
 rw[Fe];cases h:Nat.beq (Nat.mod n 2) 0 with
 | true=>rw[if_pos (show n%2=0 from Nat.eq_of_beq_eq_true h)];rfl
 | false=>rw[if_neg (show¬n%2=0 from Nat.ne_of_beq_eq_false h)];rfl
theorem za(t:Tr α)(n m:Nat)(v:Option α)(h:qj t m):qj (t.set n v) m:=by
 induction t generalizing n m with
 | nil=>exact h.elim
 | k6 l x r ak8 ak9=>
  cases n with
  | zero=>cases m<;>exact h
  | succ n=>
   rw[WK];cases m with
   | zero=>split<;>exact trivial
   | succ m=>
    have h:(if m%2=0 then qj l (m/2)else qj r (m/2)):=h;split
    ·show(if m%2=0 then qj (l.set (n/2) v) (m/2)else qj r (m/2))
     grind
    ·show(if m%2=0 then qj l (m/2)else qj (r.set (n/2) v) (m/2))
     grind
theorem zb(t:Tr α)(n:Nat)(v:Option α)(h:rC t n):(t.set n v).get n=v/\qj (t.set n v) n:=by
 induction t generalizing n with
 | nil=>
  cases n with
  | zero=>exact⟨rfl,trivial⟩
  | succ n=>exact(h 0 (Nat.succ_pos _)).elim
 | k6 l x r ak8 ak9=>
  cases n with
  | zero=>exact⟨rfl,trivial⟩
  | succ n=>
   rw[WK];split
   ·rename_i aX;have aD:rC l (n/2):=fun m aV=>by
     have:=h (2*m+1) (by omega)
     simp_all[qj]
    simp_all[WL,qj]
   ·rename_i aX;have U:rC r (n/2):=fun m aV=>by
     have:=h (2*m+2) (by omega);have:(if(2*m+1)%2=0 then qj l ((2*m+1)/2)else qj r ((2*m+1)/2)):=this
     grind
    simp_all[WL,qj]
end Tr
class b0 where
 l:List (Nat×hk)
instance (priority:=1) aBN:b0:=⟨[]⟩
structure al [b0] (H:au) (Γ:List (Nat×az)):Prop where
 c6:H.dy=0
 h9:H.t.rC H.next
 sm:(Γ.map (·.1)).Nodup
 lt:∀x∈Γ,x.1<H.next
 get:∀x∈Γ,(x.2.wr=true\/x.2.cells≠[])->H.get x.1=some x.2
 dO:H.dO=b0.l
 DB:∀x∈(b0.l:List (Nat×hk)),x.1<H.next
section st
variable[ep][b0]{P:Program}{H:au}{Γ b8:List (Nat×az)}
theorem al.at(h:al H Γ)(i:Nat){p:Nat}{b:az}(aq:Γ[i]?=some (p,b))(ao:b.wr=true\/b.cells≠[]):H.get p=some b:=h.get (p,b) (List.mem_of_getElem? aq) ao
theorem al.sub(h:al H Γ)(aw:b8.Sublist Γ):al H b8:=
 ⟨h.c6,h.h9,h.sm.sublist (aw.map _),fun x ao=>h.lt x (aw.subset ao),fun x ao=>h.get x (aw.subset ao),h.dO,h.DB⟩
theorem al.take(h:al H Γ)(n:Nat):al H (Γ.take n):=h.sub (List.take_sublist n Γ)
theorem al.left(h:al H (Γ++b8)):al H Γ:=h.sub (List.sublist_append_left Γ b8)
theorem al.fP(h:al H Γ)(bM:Γ.Perm b8):al H b8:=
 ⟨h.c6,h.h9,(bM.map _).nodup_iff.1 h.sm,fun x ao=>h.lt x (bM.mem_iff.2 ao),fun x ao=>h.get x (bM.mem_iff.2 ao),h.dO,h.DB⟩
theorem ala(H:au)(bD:H.t.rC H.next)(ar:List Value):(H.push ar).get H.next=some ⟨ar,true⟩:=(Tr.zb _ _ _ bD).1
theorem alb(H:au)(ar:List Value){i:Nat}(h:i≠H.next):(H.push ar).get i=H.get i:=Tr.lL _ _ _ _ h
theorem al.push(h:al H Γ)(ar:List Value):al (H.push ar) (Γ++[(H.next,⟨ar,true⟩)]):=by
 refine⟨h.c6,fun m aV=>?_,?_,fun x ao=>?_,fun x ao aM=>?_,h.dO,fun x ao=>Nat.lt_succ_of_lt (h.DB x ao)⟩
 ·by_cases he:m=H.next
  ·subst he;exact(Tr.zb _ _ _ h.h9).2
  ·have aV:m<H.next+1:=aV;exact Tr.za _ _ _ _ (h.h9 m (by omega))
 ·rw[List.map_append,List.map_cons,List.map_nil,List.nodup_append];refine⟨h.sm,by simp,fun a br b an=>?_⟩;obtain⟨x,ao,rfl⟩:=List.mem_map.1 br;have:=h.lt x ao
  grind
 ·show x.1<H.next+1;rcases List.mem_append.1 ao with ao|ao
  ·have:=h.lt x ao;omega
  simp_all
 ·rcases List.mem_append.1 ao with ao|ao
  ·have:=h.lt x ao;rw[alb H ar (by omega)];exact h.get x ao aM
  ·simp at ao;subst ao;exact ala H h.h9 ar
theorem dT{ar:List Value}{aa:Value->au->Prop}(h:al H Γ)(ag:∀p ab,al ab (Γ++[(p,⟨ar,true⟩)])->aa (ak p 0) ab):cO ar H aa:=ag _ _ (h.push ar)
theorem alc{p o:Nat}{b:az}{v:Value}(h:H.get p=some b)(hv:b.cells[o]?=some v):aB (ak p o) H=some (v,H):=by show gf H (Ar H p o)=_;unfold Ar;rw[h];simp only[vb,hv];rfl
theorem aZ{p o:Nat}{b:az}{v:Value}{aa:Value->au->Prop}(h:al H Γ)(i:Nat)(aq:Γ[i]?=some (p,b))(hv:b.cells[o]?=some v)(ag:aa v H):ah (aB (ak p o) H) aa:=by rw[alc (h.at i aq (.inr fun e=>by simp_all)) hv,OY];exact ag
theorem ald{p o n:Nat}{b:az}(h:H.get p=some b)(aX:n<=b.cells.length-o):ch n (ak p o) H=some (.agg ((b.cells.drop o).take n).toArray,H):=by simp_all[ch,AB,mD,nE,xe,gX]
theorem jM{p o n:Nat}{b:az}{ar:List Value}{aa:Value->au->Prop}(h:al H Γ)(i:Nat)(aq:Γ[i]?=some (p,b))(hv:(b.cells.drop o).take n=ar)(aX:ar.length=n)(bM:0<n)(ag:aa (.agg ar.toArray) H):ah (ch n (ak p o) H) aa:=by subst hv;rw[ald (h.at i aq (.inr fun e=>by simp_all)) (by grind),OY];exact ag
theorem ale{i:Nat}{p:Nat}{b dE:az}(aq:Γ[i]?=some (p,b)):(Γ.set i (p,dE)).map (·.1)=Γ.map (·.1):=by
 apply List.ext_getElem?
 grind
theorem al.h6(h:al H Γ){i p:Nat}{b:az}(aq:Γ[i]?=some (p,b))(ao:b.wr=true\/b.cells≠[])(dE:az):al (H.set p (some dE)) (Γ.set i (p,dE)):=by
 have aV:∀x∈Γ.set i (p,dE),x=(p,dE)\/(x∈Γ/\x.1≠p):=by
  intro x ao;obtain⟨j,bp⟩:=List.mem_iff_getElem?.1 ao;rw[List.getElem?_set]at bp;by_cases he:i=j
  ·simp_all
  ·rw[if_neg he]at bp;refine .inr ⟨List.mem_of_getElem? bp,fun e=>he ?_⟩;have e8:(Γ.map (·.1))[i]?=some p:=by simp_all
   have fF:(Γ.map (·.1))[j]?=some p:=by simp_all
   exact(List.getElem?_inj (by grind) h.sm).1 (e8.trans fF.symm)
 refine⟨h.c6,fun m aV=>Tr.za _ _ _ _ (h.h9 m aV),by rw[ale aq];exact h.sm,fun x ao=>?_,fun x ao aM=>?_,h.dO,h.DB⟩
 ·rcases aV x ao with rfl|⟨ao,_⟩
  ·exact h.lt (p,b) (List.mem_of_getElem? aq)
  ·exact h.lt x ao
 ·rcases aV x ao with rfl|⟨ao,dj⟩
  ·exact Tr.Uf _ _ _ _ (h.at i aq ‹_›)
  ·exact(Tr.lL _ _ _ _ dj).trans (h.get x ao aM)
theorem F8(h:al H Γ){i p o:Nat}{ar bV:List Value}(aq:Γ[i]?=some (p,⟨ar,true⟩))(aX:o+bV.length<=ar.length)(ad:bV.all eP=true):
  ∃ab,uZ H p o bV=some ab/\al ab (Γ.set i (p,⟨ar.take o++(bV++ar.drop (o+bV.length)),true⟩)):=by
 refine⟨_,?_,h.h6 aq (.inl rfl) _⟩;rw[Ij];rw[h.at i aq (.inl rfl)];have e:(au.ou H p ⟨ar,true⟩&&(Nat.ble (o+fE bV) (fE ar)&&jT eP bV))=true:=by
  unfold au.ou;rw[h.c6]
  simp_all[gX,ki]
 grind[iF,mD,nE,gX]
theorem o9{n p o:Nat}{v:Value}{ar:List Value}{aa:Value->au->Prop}(h:al H Γ)(i:Nat)(aq:Γ[i]?=some (p,⟨ar,true⟩))(aD:(dp v).length=n)(aX:o+n<=ar.length)(ad:(dp v).all eP=true)
  (ag:∀ab,al ab (Γ.set i (p,⟨ar.take o++(dp v++ar.drop (o+n)),true⟩))->aa undef ab):ah (bC n (ak p o) v H) aa:=by
 obtain⟨ab,aM,aw⟩:=F8 h (o:=o) (bV:=dp v) aq (by omega) ad
 simp_all[bC,gX,OY]
theorem fQ{p o:Nat}{v:Value}{ar bx:List Value}{aa:Value->au->Prop}(h:al H Γ)(i:Nat)(aq:Γ[i]?=some (p,⟨ar,true⟩))(ad:eP v=true)(aX:o<ar.length)(aA:ar.set o v=bx)
  (ag:∀ab,al ab (Γ.set i (p,⟨bx,true⟩))->aa undef ab):ah (bC 1 (ak p o) v H) aa:=by
 have hv:dp v=[v]:=by cases v<;>first|rfl|(cases ad;done)
 refine o9 h i aq (by grind) (by omega) (by simp_all) fun ab hO=>ag ab ?_
 have e:ar.take o++(dp v++ar.drop (o+1))=bx:=by
  rw[hv,<- aA];apply List.ext_getElem?;intro j;rw[List.getElem?_set];by_cases bp:j<o
  ·grind
  ·rw[List.getElem?_append_right (by grind),List.length_take,Nat.min_eq_left (by omega)];by_cases Be:j=o
   ·simp_all
   ·rw[List.getElem?_append_right (by grind),List.getElem?_drop,if_neg (Ne.symm Be)]
    grind
 simp_all
def ta:Value->Bool
 | .bool _=>true
 | .int _ _=>true
 | .string _=>true
 | .pointer a=>match a with|none=>true|some a=>a.spot.isNone
 | .slice a _ _=>match a with|none=>true|some a=>a.spot.isNone
 | .map _=>true
 | .nilFunc=>true
 | .nilIface=>true
 | _=>false
def WM:Fn->Bool
 | .func _=>true
 | _=>false
def fH:Value->Bool
 | .iface _ v=>ta v
 | .func f a b=>WM f&&(a.toList.all ta&&b.toList.all ta)
 | v=>ta v
theorem JP{α:Type}{p:α->α->Bool}:∀l:List α,(∀x∈l,p x x=true)->tJ p l l=true
 | [],_=>rfl
 | x::l,h=>by
  show cond (p x x) (tJ p l l) false=true
  simp_all[JP]
theorem WN{a:Option Addr}(h:(match a with|none=>true|some a=>a.spot.isNone)=true):CN a a=true:=by
 cases a with
 | none=>rfl
 | some a=>
  obtain⟨i,o,s⟩:=a;cases s with
  | none=>show(Nat.beq i i&&Nat.beq o o)=true;simp_all
  | some _=>cases h
theorem O0(sub:Value->Value->Bool){v:Value}(h:ta v=true):Ay sub v v=true:=by
 cases v<;>first|(cases h;done)|skip
 case bool b=>cases b<;>rfl
 case int k n=>show(tK k k&&oW n n)=true;rw[WG,rm];simp
 case string s=>show tJ MK s.data.toList s.data.toList=true;exact JP _ fun x _=>Nat.beq_refl _
 case pointer a=>exact WN h
 case slice a n c=>show(CN a a&&(Nat.beq n n&&Nat.beq c c))=true;rw[WN h,Nat.beq_refl,Nat.beq_refl];rfl
 case map a=>cases a with
  | none=>rfl
  | some i=>exact Nat.beq_refl i
 case nilFunc=>rfl
 rfl
theorem alf{v:Value}(h:fH v=true):ML v v=true:=by
 cases v<;>first|exact O0 _ h|skip
 case iface t v=>show(Nat.beq t t&&Ay _ v v)=true;rw[Nat.beq_refl,O0 _ h];rfl
 case func f a b=>
  have h:(WM f&&(a.toList.all ta&&b.toList.all ta))=true:=h;rw[Bool.and_eq_true,Bool.and_eq_true,List.all_eq_true,List.all_eq_true]at h;obtain⟨aR,ad,af⟩:=h;cases f<;>first|(cases aR;done)|skip
  rename_i g;show(Nat.beq g g&&(tJ _ a.toList a.toList&&tJ _ b.toList b.toList))=true
  grind[Nat.beq_refl,JP,O0]
theorem alg{H ab:au}{p:Nat}{b:az}(h:H.get p=some b)(a7:ab.get p=some b)(aw:b.cells.all fH=true):dZ H ab p=true:=by unfold dZ;rw[h,a7];simp only;rw[JP _ fun x ao=>alf (List.all_eq_true.1 aw x ao)];cases b.wr<;>rfl
theorem alh{s:Nat->Bool}:ei s (cd []):=rfl
theorem ali{s:Nat->Bool}{p o:Nat}{l:List Value}(bM:s p=true)(h:ei s (cd l)):ei s (cd (ak p o::l)):=by
 have e:cd (ak p o::l)=p::cd l:=rfl
 simp_all[ei,ki]
theorem ha{H ab:au}{b8:List (Nat×az)}{p o:Nat}{b:az}(h:al H Γ)(i:Nat)(aq:Γ[i]?=some (p,b))(a7:al ab b8)(j:Nat)(bp:b8[j]?=some (p,b))(aw:b.cells.all fH=true)(ao:b.wr=true\/b.cells≠[]:=by exact .inl rfl):ei (dZ H ab) (cd [ak p o]):=
 ali (alg (h.at i aq ao) (a7.at j bp ao) aw) alh
theorem ai{r:Option Value}{v:Value}{aa:Value->Prop}(h:r=some v)(ag:aa v):ae r aa:=⟨v,h,ag⟩
theorem cH{r:R}{v:Value}{ab:au}{aa:Value->au->Prop}(h:r=some (v,ab))(ag:aa v ab):ah r aa:=⟨v,ab,h,ag⟩
theorem nK{p:Prop}[Decidable p]{A B:Prop}(h:p)(hA:A):aN (.bool (decide p)) A B:=by simp_all[WC]
theorem tb{p:Prop}[Decidable p]{A B:Prop}(h:¬p)(ck:B):aN (.bool (decide p)) A B:=by simp_all[WD]
theorem ju{p:Prop}[Decidable p]{a b:Value}(h:p):aH (.bool (decide p)) a b=some a:=by rw[decide_eq_true h];rfl
theorem kV{p:Prop}[Decidable p]{a b:Value}(h:¬p):aH (.bool (decide p)) a b=some b:=by rw[decide_eq_false h];rfl
theorem kW{b:Bool}{A B:Prop}(h:b=true)(hA:A):cond b A B:=by simp_all
theorem alj{b:Bool}{A B:Prop}(h:b=false)(ck:B):cond b A B:=by simp_all
theorem mn{t:TypeId}{c:Bool}{a b:Int}(ad:-9223372036854775808<=a+b)(af:a+b<=9223372036854775807):(ay P .add t c).f (.int .i64 a) (.int .i64 b)=some (.int .i64 (a+b)):=by rw[WH,y9 ad af]
theorem nL{t:TypeId}{c:Bool}{a b:Int}(ad:-9223372036854775808<=a-b)(af:a-b<=9223372036854775807):(ay P .sub t c).f (.int .i64 a) (.int .i64 b)=some (.int .i64 (a-b)):=by rw[WI,y9 ad af]
theorem zc{t:TypeId}{c:Bool}{a b:Int}(ad:-9223372036854775808<=a*b)(af:a*b<=9223372036854775807):(ay P .mul t c).f (.int .i64 a) (.int .i64 b)=some (.int .i64 (a*b)):=by rw[WJ,y9 ad af]
theorem vy{H:au}{k:IntKind}{a b:Int}:gf H (px [.int k a,.int k b])=some (.int k (min a b),H):=by rw[ak6];rfl
theorem zd{H:au}{k:IntKind}{a b:Int}:gf H (p5 [.int k a,.int k b])=some (.int k (max a b),H):=by rw[ak7];rfl
theorem gb{A:(List Value->au->Prop)->Prop}{B:List Value->au->Prop}(J:List Value->au->Prop)(ad:A J)(af:∀l H,J l H->B l H):fO A B:=⟨J,ad,af⟩
theorem ze{A:(List Value->au->Prop)->Prop}{B:List Value->au->Prop}(ad:A B):fO A B:=⟨B,ad,fun _ _ h=>h⟩
end st
end Go.Ab
namespace Go.Ab
open Go
local instance:hy:=⟨fun _=>none,0⟩
section
variable[ep][b0]{H:au}{Γ:List (Nat×az)}{aa:Value->au->Prop}
theorem fU{b:Bool}{A B:Prop}(h:b=true)(hA:A):aN (.bool b) A B:=by simp_all[WC]
theorem eX{b:Bool}{A B:Prop}(h:b=false)(ck:B):aN (.bool b) A B:=by simp_all[WD]
theorem alk(n:Nat)(v:Value):fS n [v]=List.replicate n v:=y0 n v
theorem ih{r:R}{n c:Nat}{ar:List Value}(h:al H Γ)(U:r=some (aF H.next 0 n c,H.push ar))(ag:∀p ab,al ab (Γ++[(p,⟨ar,true⟩)])->aa (aF p 0 n c) ab):ah r aa:=
 cH U (ag _ _ (h.push ar))
theorem alm{size bytes:Nat}{z:List Value}{k fh:IntKind}{n:Nat}(ad:n*bytes<=281474976710656)(af:n<=9223372036854775807):
  tO size bytes z (.int k n) (.int fh n) H=some (aF H.next 0 n (2*size+1),H.push (fS n z)):=by
 unfold tO;simp only[Int.toNat_natCast];rw[if_pos (by omega),if_pos (by omega),if_pos (by simp_all)];have:oW (n:Int) n=true:=by rw[rm];simp
 rw[this];rfl
theorem F9{size bytes:Nat}{z:List Value}{k fh:IntKind}{n:Nat}(h:al H Γ)(ad:n*bytes<=281474976710656)(af:n<=9223372036854775807)
  (ag:∀p ab,al ab (Γ++[(p,⟨fS n z,true⟩)])->aa (aF p 0 n (2*size+1)) ab):ah (tO size bytes z (.int k n) (.int fh n) H) aa:=
 ih h (alm ad af) ag
def b2(v:Value)(ar:List Value):List (Nat×az):=match v with
 | .slice (some a) _ _=>[(a.block,⟨ar,true⟩)]
 | _=>[]
def jN(size:Nat)(v:Value)(n:Nat)(ar:List Value):Prop:=
 (v=bB/\n=0/\ar=[])\/(∃p,(v=aF p 0 n (2*size)\/v=aF p 0 n (2*size+1))/\ar.length=n*size)
theorem jN.nil{size:Nat}:jN size bB 0 []:=.inl ⟨rfl,rfl,rfl⟩
theorem jN.len{size n:Nat}{v:Value}{ar:List Value}(h:jN size v n ar):ar.length=n*size:=by
 rcases h with⟨_,rfl,rfl⟩|⟨p,_,h⟩
 ·simp
 ·exact h
theorem jN.cG{size n:Nat}{v:Value}{ar:List Value}(h:jN size v n ar):cG v H=some (.int .i64 n,H):=by rcases h with⟨rfl,rfl,_⟩|⟨p,rfl|rfl,_⟩<;>rfl
theorem al.fb(h:al H Γ){i p:Nat}{b:az}(aq:Γ[i]?=some (p,b)):al (H.set p none) (Γ.eraseIdx i):=by
 have aV:∀x∈Γ.eraseIdx i,x∈Γ/\x.1≠p:=by
  intro x ao;refine⟨List.mem_of_mem_eraseIdx ao,fun e=>?_⟩;obtain⟨j,bp⟩:=List.mem_iff_getElem?.1 ao;rw[List.getElem?_eraseIdx]at bp;have e8:(Γ.map (·.1))[i]?=some p:=by simp_all
  have ea:i<(Γ.map (·.1)).length:=by grind
  split at bp
  ·rename_i IG;have fF:(Γ.map (·.1))[j]?=some p:=by simp_all
   have:=(List.getElem?_inj ea h.sm).1 (e8.trans fF.symm);omega
  ·rename_i IG;have fF:(Γ.map (·.1))[j+1]?=some p:=by simp_all
   have:=(List.getElem?_inj ea h.sm).1 (e8.trans fF.symm);omega
 exact⟨h.c6,fun m aV=>Tr.za _ _ _ _ (h.h9 m aV),h.sm.sublist ((List.eraseIdx_sublist Γ i).map _),fun x ao=>h.lt x (aV x ao).1,
  fun x ao aM=>(Tr.lL _ _ _ _ (aV x ao).2).trans (h.get x (aV x ao).1 aM),h.dO,h.DB⟩
theorem aln{size n p o:Nat}{b:az}{c:Nat}(h:H.get p=some b)(aX:o+n*size<=b.cells.length)(aA:c=n):sU H size n (aF p o c 0)=some ((b.cells.drop o).take (n*size)):=by
 unfold sU;simp only;split
 ·simp_all
 grind[AB,xe,mD,nE,gX,Nat.beq_refl]
theorem Ga{size n p o c:Nat}{b:az}(h:H.get p=some b)(aX:o+n*size<=b.cells.length):sU H size n (aF p o n c)=some ((b.cells.drop o).take (n*size)):=aln h aX rfl
theorem wH{n bytes:Nat}(h:n*bytes<=140737488355328)(af:n<=9223372036854775807):xg n bytes=true:=by
 unfold xg;rw[Bool.and_eq_true,l3,l3]
 grind
theorem WO{size bytes n m:Nat}{v x:Value}{ar cN:List Value}(h:al H (Γ++b2 v ar))(hv:jN size v n ar)(bM:0<size)(aV:mZ x=some m)(ao:sU H size m x=some cN)(Fu:0<m)
  (U:(n+m)*bytes<=140737488355328) (iK:n+m<=9223372036854775807) (ad:cN.all eP=true) (hlen:cN.length=m*size)
  (ag:∀p ab,al ab (Γ++[(p,⟨ar++cN,true⟩)])->jN size (aF p 0 (n+m) (2*size)) (n+m) (ar++cN)->aa (aF p 0 (n+m) (2*size)) ab):ah (gD size bytes v x H) aa:=by
 have xP:∀p,jN size (aF p 0 (n+m) (2*size)) (n+m) (ar++cN):=fun p=>.inr ⟨p,.inl rfl,by rw[List.length_append,hlen,hv.len,Nat.add_mul]⟩
 unfold gD;simp only[aV,ao];have qQ:Nat.beq m 0=false:=by grind[Nat.eq_of_beq_eq_true]
 rcases hv with⟨rfl,rfl,rfl⟩|⟨p,hv,aD⟩
 ·unfold qC;simp only[qQ,Bool.false_eq_true,if_false];rw[if_pos (wH (by simp_all) (by omega))];refine cH (show l1 cN m (2*size) H=some (aF H.next 0 m (2*size),H.push cN)from rfl) ?_;have h:al H Γ:=by simp_all[b2]
  have:=ag _ _ (h.push cN) (xP _)
  simp_all
 ·have sn:b2 v ar=[(p,⟨ar,true⟩)]:=by rcases hv with rfl|rfl<;>rfl
  rw[sn]at h;have aq:(Γ++[(p,(⟨ar,true⟩:az))])[Γ.length]?=some (p,⟨ar,true⟩):=by simp
  have n9:=h.at _ aq (.inl rfl);have xQ:=h.fb aq;have he:(Γ++[(p,(⟨ar,true⟩:az))]).eraseIdx Γ.length=Γ:=by grind
  rw[he]at xQ;unfold qC;rcases hv with rfl|rfl
  ·simp only[qQ,Bool.false_eq_true,if_false];rw[if_pos (wH U iK)];have alo:Nat.beq (2*size) (2*size+1)=false:=by grind[Nat.eq_of_beq_eq_true]
   rw[alo];simp only[Bool.false_eq_true,if_false,Nat.beq_refl,if_true];unfold Am;rw[n9];have e:(au.ou H p ⟨ar,true⟩&&(Nat.ble (0+n*size) (fE ar)&&jT eP cN))=true:=by unfold au.ou;rw[h.c6,gX,ki,ad,l3,l3,decide_eq_true (by omega:0+n*size<=ar.length)];simp
   simp only[e];have bF:hT (p3 (pw ar (0+n*size)) 0) cN=ar++cN:=by simp_all[iF,nE,mD,List.take_of_length_le]
   rw[bF];exact cH (show l1 (ar++cN) (n+m) (2*size) (H.set p none)=some (aF H.next 0 (n+m) (2*size),(H.set p none).push (ar++cN))from rfl) (ag _ _ (xQ.push _) (xP _))
  ·simp only[qQ,Bool.false_eq_true,if_false];rw[if_pos (wH U iK)];simp only[Nat.beq_refl,if_true];unfold yC;have ey:(if Nat.beq n 0=true then some []else rZ H p 0 (n*size))=some ar:=by grind[Nat.eq_of_beq_eq_true,List.length_eq_zero_iff,AB,xe,mD,nE,gX,Nat.beq_refl]
   rw[ey];simp only[iF];have alp:al H Γ:=h.left;exact cH (show l1 (ar++cN) (n+m) (2*size) H=some (aF H.next 0 (n+m) (2*size),H.push (ar++cN))from rfl) (ag _ _ (alp.push _) (xP _))
end
end Go.Ab
namespace Go.Ab
open Go Go.ChangeShapes Go.WideShapes
inductive nm (P:Program):List TypeId->Nat->List Value->List (List Value)->Prop
 | nil {N:Nat}:nm P [] N [] []
 | bool {t:TypeId} {el:List TypeId} {N:Nat} {c:List Value} {b:List (List Value)} (v:Bool):P.underlying t=some .bool->nm P el N c b->nm P (t::el) N (.bool v::c) b
 | int {t:TypeId} {el:List TypeId} {N:Nat} {c:List Value} {b:List (List Value)} {k:IntKind} (v:Int):P.underlying t=some (.int k)->(Lit.int k v).wf=true->nm P el N c b->nm P (t::el) N (.int k v::c) b
 | bZ {t:TypeId} {el:List TypeId} {N:Nat} {c:List Value} {b:List (List Value)} (v:ByteArray):P.underlying t=some .string->v.size<=maxLen->nm P el N c b->nm P (t::el) N (.string v::c) b
 | mE {t e:TypeId} {el:List TypeId} {N:Nat} {c:List Value} {b:List (List Value)}:P.underlying t=some (.slice e)->nm P el N c b->nm P (t::el) N (.slice none 0 0::c) b
 | aF {t e:TypeId} {el:List TypeId} {N:Nat} {c cells:List Value} {b bs:List (List Value)} (len:Nat):P.underlying t=some (.slice e)->len<=maxLen->cells.length=len*P.cellsOf e->nm P (List.replicate len e) (N+1) cells bs->nm P el (N+1+bs.length) c b->
   nm P (t::el) N (.slice (some ⟨N,0,none⟩) len (2*P.cellsOf e)::c) (cells::(bs++b))
 | struct {t:TypeId} {bR:Array Field} {el:List TypeId} {N:Nat} {c:List Value} {b:List (List Value)}:P.underlying t=some (.struct bR)->nm P (bR.toList.map (·.type)++el) N c b->nm P (t::el) N c b
 | array {t e:TypeId} {n:Nat} {el:List TypeId} {N:Nat} {c:List Value} {b:List (List Value)}:P.underlying t=some (.array n e)->nm P (List.replicate n e++el) N c b->nm P (t::el) N c b
theorem nm.append{P:Program}{el Gb:List TypeId}{N:Nat}{c cC:List Value}{b dE:List (List Value)}(h:nm P el N c b)(a7:nm P Gb (N+b.length) cC dE):nm P (el++Gb) N (c++cC) (b++dE):=by
 induction h with
 | nil=>exact a7
 | bool v bD _ bd=>exact .bool v bD (bd a7)
 | int v bD aM _ bd=>exact .int v bD aM (bd a7)
 | bZ v bD aM _ bd=>exact .bZ v bD aM (bd a7)
 | mE bD _ bd=>exact .mE bD (bd a7)
 | @aF t e el N c cells b bs len bD aV aD ad af _ bd=>
  have bn:(cells::(bs++b))++dE=cells::(bs++(b++dE)):=by simp
  rw[bn];refine .aF len bD aV aD ad (bd ?_)
  grind
 | struct bD _ bd=>refine .struct bD ?_;simp_all
 | array bD _ bd=>refine .array bD ?_;simp_all
def JQ(P:Program):List Field->Nat->Bool
 | [],_=>true
 | f::bR,o=>Nat.beq f.offset o&&JQ P bR (o+P.cellsOf f.type)
def DC(P:Program):List Field->Nat
 | []=>0
 | f::bR=>P.cellsOf f.type+DC P bR
def supB(P:Program):Nat->TypeId->Bool
 | 0,_=>false
 | d+1,t=>match P.underlying t with
  | some .bool=>Nat.beq (P.cellsOf t) 1
  | some (.int _)=>Nat.beq (P.cellsOf t) 1
  | some .string=>Nat.beq (P.cellsOf t) 1
  | some (.slice e)=>Nat.beq (P.cellsOf t) 1&&(Nat.blt 0 (P.cellsOf e)&&supB P d e)
  | some (.struct bR)=>JQ P bR.toList 0&&(Nat.beq (DC P bR.toList) (P.cellsOf t)&&bR.toList.all fun f=>supB P d f.type)
  | some (.array n e)=>Nat.beq (n*P.cellsOf e) (P.cellsOf t)&&supB P d e
  | _=>false
def mJ(N:Nat)(b6:List (Nat×Nat×Nat)):cQ:=fun id=>if N<=id then b6[id-N]? else none
theorem Gc{N:Nat}{um zf:List (Nat×Nat×Nat)}:∀id x,mJ N um id=some x->mJ N (um++zf) id=some x:=by
 intro id x h;unfold mJ at h⊢
 grind
theorem O1{N:Nat}{um zf:List (Nat×Nat×Nat)}:∀id x,mJ (N+um.length) zf id=some x->mJ N (um++zf) id=some x:=by
 intro id x h;unfold mJ at h⊢
 grind
def DD(σ:cQ)(w:World)(b:List Value)(x:Nat×Nat×Nat):Prop:=
 b≠[]->∃dk c2 et,w.heap[x.1]?=some (.cells dk c2 et)/\dk.size=x.2.2/\x.2.1+b.length<=x.2.2/\bG σ b ((dk.toList.drop x.2.1).take b.length)
structure tc (P:Program) (w:World) (el:List TypeId) (N:Nat) (ar as:List Value) (bs:List (List Value)) (b6:List (Nat×Nat×Nat)):Prop where
 Bf:nm P el N as bs
 len:b6.length=bs.length
 zg:bG (mJ N b6) as ar
 kv:∀(i:Nat) (b:List Value) (x:Nat×Nat×Nat),bs[i]?=some b->b6[i]?=some x->DD (mJ N b6) w b x
theorem DD.mono{σ τ:cQ}{w:World}{b:List Value}{x:Nat×Nat×Nat}(aV:∀id x,σ id=some x->τ id=some x)(h:DD σ w b x):DD τ w b x:=fun an=>by obtain⟨dk,c2,et,ad,af,ax,aO⟩:=h an;exact⟨dk,c2,et,ad,af,ax,aO.mono aV⟩
section
variable{H:Type}{enc:TypeId×Value->H}{P:Program}{w:World}
theorem tc.none{N:Nat}{w:World}:tc P w [] N [] [] [] []:=⟨.nil,rfl,.nil,fun i b x h=>by simp at h⟩
theorem tc.append{el Gb:List TypeId}{N:Nat}{ar bx as Bg:List Value}{bs xR:List (List Value)}{b6 so:List (Nat×Nat×Nat)}(h:tc P w el N ar as bs b6)(a7:tc P w Gb (N+bs.length) bx Bg xR so):
  tc P w (el++Gb) N (ar++bx) (as++Bg) (bs++xR) (b6++so):=by
 have U:∀id x,mJ (N+bs.length) so id=some x->mJ N (b6++so) id=some x:=by rw[<- h.len];exact O1
 refine⟨h.Bf.append a7.Bf,by rw[List.length_append,List.length_append,h.len,a7.len],(h.zg.mono Gc).append (a7.zg.mono U),fun i b x an ao=>?_⟩;by_cases aq:i<bs.length
 ·rw[List.getElem?_append_left aq]at an;rw[List.getElem?_append_left (by rw[h.len];exact aq)]at ao;exact(h.kv i b x an ao).mono Gc
 ·rw[List.getElem?_append_right (by omega)]at an;rw[List.getElem?_append_right (by rw[h.len];omega),h.len]at ao;exact(a7.kv _ b x an ao).mono U
abbrev rD(enc:TypeId×Value->H)(P:Program)(w:World)(t:TypeId)(ar:List Value):Prop:=∃mi x,DataW.trod enc P w 0 (fun _=>true) true mi t ar=some x
theorem O2{e:TypeId}{c0:Nat}(qL:∀ar,rD enc P w e ar->ar.length=c0->∀N,∃as bs b6,tc P w [e] N ar as bs b6):∀(n:Nat) (L:List Value),L.length=n*c0->(∀i,i<n->rD enc P w e ((L.drop (i*c0)).take c0))->∀N,∃as bs b6,tc P w (List.replicate n e) N L as bs b6
 | 0,L,aD,_,N=>by have:L=[]:=List.length_eq_zero_iff.1 (by omega);subst this;exact⟨_,_,_,tc.none⟩
 | n+1,L,aD,h,N=>by
  have vp:c0<=L.length:=by grind
  obtain⟨as,bs,b6,ad⟩:=qL (L.take c0) (by have:=h 0 (by omega);simp_all) (by simp_all) N;obtain⟨Bg,xR,so,af⟩:=O2 qL n (L.drop c0) (by grind) (fun i aq=>by grind[List.drop_drop]) (N+bs.length);have:=ad.append af
  grind[List.take_append_drop]
theorem WQ:∀(bR:List Field) (o:Nat) (ar:List Value),JQ P bR o=true->ar.length=o+DC P bR->(∀f∈bR,∀ds,rD enc P w f.type ds->ds.length=P.cellsOf f.type->∀N,∃as bs b6,tc P w [f.type] N ds as bs b6)->
  (∀f∈bR,rD enc P w f.type ((ar.drop f.offset).take (P.cellsOf f.type)))->∀N,∃as bs b6,tc P w (bR.map (·.type)) N (ar.drop o) as bs b6
 | [],o,ar,_,aD,_,_,N=>by have:ar.drop o=[]:=List.drop_eq_nil_of_le (by simp_all[DC]);rw[this];exact⟨_,_,_,tc.none⟩
 | f::bR,o,ar,aA,aD,qL,h,N=>by
  have aA:(Nat.beq f.offset o&&JQ P bR (o+P.cellsOf f.type))=true:=aA;rw[Bool.and_eq_true]at aA;have bJ:=Nat.eq_of_beq_eq_true aA.1;have aw:DC P (f::bR)=P.cellsOf f.type+DC P bR:=rfl;rw[aw]at aD;have aR:=h f (by simp);rw[bJ]at aR;obtain⟨as,bs,b6,ad⟩:=qL f (by simp) _ aR (by simp_all) N;obtain⟨Bg,xR,so,af⟩:=WQ bR (o+P.cellsOf f.type) ar aA.2 (by omega) (fun g hg=>qL g (by simp[hg])) (fun g hg=>h g (by simp[hg])) (N+bs.length);have:=ad.append af
  grind[List.drop_drop,List.take_append_drop]
theorem alq{a:Addr}{v:Value}{w:World}(h:w.cell? a=some v):∃dk c2 et,w.heap[a.block]?=some (.cells dk c2 et)/\a.spot=none/\dk[a.off]?=some v:=by
 unfold World.cell? at h;split at h
 ·simp_all
 ·cases h
theorem JR:∀(d:Nat) (t:TypeId) (ar:List Value),supB P d t=true->rD enc P w t ar->ar.length=P.cellsOf t->∀N,∃as bs b6,tc P w [t] N ar as bs b6
 | 0,_,_,aw,_,_,_=>by cases aw
 | d+1,t,ar,aw,⟨mi,x,h⟩,hlen,N=>by
  have alr:=aw;unfold supB at aw;split at aw<;>try (cases aw;done)
  ·rename_i bD;obtain⟨b,rfl,_⟩:=DataW.trod_bool bD h;exact⟨_,_,[],⟨.bool b bD .nil,rfl,.bool b .nil,fun i b x an=>by simp at an⟩⟩
  ·rename_i k bD;obtain⟨n,rfl,_,aM⟩:=DataW.trod_int bD h;exact⟨_,_,[],⟨.int n bD aM .nil,rfl,.int k n .nil,fun i b x an=>by simp at an⟩⟩
  ·rename_i bD;obtain⟨s,rfl,_,aM⟩:=DataW.trod_string bD h;exact⟨_,_,[],⟨.bZ s bD aM .nil,rfl,.string s .nil,fun i b x an=>by simp at an⟩⟩
  ·rename_i e bD;simp only[Bool.and_eq_true,blt_eq,decide_eq_true_eq]at aw;obtain⟨_,Bh,WR⟩:=aw;rcases Go.Deep.open_slice bD h with⟨rfl,_⟩|⟨a,len,cap,m,n,D,iO,rfl,an,aD,aV,NZ,_,aBO⟩
   ·exact⟨_,_,[],⟨.mE bD .nil,rfl,.mE .nil,fun i b x an=>by simp at an⟩⟩
   ·simp only[if_true]at NZ;subst NZ;by_cases IZ:m=0
    ·-- nothing there at all
     subst IZ;have sc:len=0:=by omega
     subst sc;refine⟨_,_,[(0,0,0)],⟨.aF 0 bD (Nat.zero_le _) (by simp) .nil .nil,rfl,?_,fun i b x an ao=>?_⟩⟩
     ·exact .n5 N 0 0 (P.cellsOf e) 0 0 0 0 a (by simp[mJ]) Bh (Nat.le_refl _) (.inr ⟨rfl,rfl⟩) .nil
     ·cases i with
      | zero=>simp at an;subst an;intro dj;simp_all
      | succ i=>simp at an
    ·-- the block
     have Fg:∀i,i<m->∃bx,w.cells? 0 (a.add (i*P.cellsOf e)) (P.cellsOf e)=some bx/\rD enc P w e bx:=fun i aq=>by grind
     obtain⟨als,alu,_⟩:=Fg 0 (by omega);obtain⟨_,aBP,alv⟩:=World.cells?_some alu;have JS:=alv 0 Bh;obtain⟨v0,alw⟩:∃v,als[0]?=some v:=⟨_,List.getElem?_eq_getElem (by omega)⟩;rw[alw]at JS;obtain⟨dk,c2,et,hh,wI,_⟩:=alq JS;have hZ:((a.add (0*P.cellsOf e)).add 0)=a:=by simp[Addr.add]
     rw[hZ]at hh wI;have n9:∀i j,i<m->j<P.cellsOf e->∃bx,w.cells? 0 (a.add (i*P.cellsOf e)) (P.cellsOf e)=some bx/\bx[j]?=dk[a.off+(i*P.cellsOf e+j)]?:=by
      intro i j aq bp;obtain⟨bx,ad,_⟩:=Fg i aq;obtain⟨_,af,ax⟩:=World.cells?_some ad;refine⟨bx,ad,?_⟩;rw[<- ax j bp,Go.Deep.add_add];unfold World.cell?;have pB:(a.add (i*P.cellsOf e+j)).block=a.block:=by grind[Addr.add]
      have akp:(a.add (i*P.cellsOf e+j)).off=a.off+(i*P.cellsOf e+j):=by grind[Addr.add]
      have la:(a.add (i*P.cellsOf e+j)).spot=none:=by grind[Addr.add]
      simp_all
     have CZ:a.off+m*P.cellsOf e<=dk.size:=by
      obtain⟨bx,ad,af⟩:=n9 (m-1) (P.cellsOf e-1) (by omega) (by omega);obtain⟨_,ax,_⟩:=World.cells?_some ad;rw[List.getElem?_eq_getElem (by omega)]at af;have:=(Array.getElem?_eq_some_iff.1 af.symm).1;have bn:(m-1)*P.cellsOf e+P.cellsOf e=m*P.cellsOf e:=by rw[<- Nat.succ_mul];grind
      omega
     have kP:=Nat.mul_le_mul_right (P.cellsOf e) aD
     let L:=(dk.toList.drop a.off).take (len*P.cellsOf e)
     have hL:L.length=len*P.cellsOf e:=by grind
     have alx:∀i,i<len->rD enc P w e ((L.drop (i*P.cellsOf e)).take (P.cellsOf e)):=by
      intro i aq;obtain⟨bx,ad,af⟩:=Fg i (by omega);obtain⟨_,ax,_⟩:=World.cells?_some ad;have Ok:(i+1)*P.cellsOf e<=len*P.cellsOf e:=Nat.mul_le_mul_right _ aq;rw[Nat.succ_mul]at Ok;have:(L.drop (i*P.cellsOf e)).take (P.cellsOf e)=bx:=by
       apply List.ext_getElem?;intro j;rw[List.getElem?_take];split
       ·rename_i bp;obtain⟨WS,bX,b7⟩:=n9 i j (by omega) bp
        grind
       simp_all
      simp_all
     obtain⟨as,bs,b6,bJ⟩:=O2 (fun ds U vp N=>JR d e ds WR U vp N) len L hL alx (N+1);have WT:as.length=len*P.cellsOf e:=by rw[bJ.zg.length,hL]
     have WU:∀id x,mJ (N+1) b6 id=some x->mJ N ((a.block,a.off,dk.size)::b6) id=some x:=fun id x ao=>O1 (um:=[(a.block,a.off,dk.size)]) id x ao
     refine⟨_,_,(a.block,a.off,dk.size)::b6,⟨.aF len bD (by omega) WT bJ.Bf .nil,by simp[bJ.len],?_,fun i b x an ao=>?_⟩⟩
     ·refine .n5 N 0 len (P.cellsOf e) m a.block a.off dk.size a (by simp[mJ]) Bh aD (.inl ⟨?_,by omega⟩) .nil;obtain⟨cU,of,cF⟩:=a
      simp_all
     ·cases i with
      | zero=>simp at an ao;subst an;subst ao;intro _;refine⟨dk,c2,et,hh,rfl,by grind,?_⟩;rw[WT];exact bJ.zg.mono WU
      | succ i=>simp at an ao;exact(bJ.kv i b x an ao).mono WU
  ·rename_i bR bD;rw[Bool.and_eq_true,Bool.and_eq_true,List.all_eq_true]at aw;obtain⟨ad,af,ax⟩:=aw;have af:=Nat.eq_of_beq_eq_true af;obtain⟨aj,n,_,_,_,WV,hf⟩:=DataW.trod_struct bD h;obtain⟨as,bs,b6,bJ⟩:=WQ (enc:=enc) (w:=w) bR.toList 0 ar ad (by omega) (fun f uf ds U vp N=>JR d f.type ds (ax f uf) U vp N) (fun f uf=>by grind[List.mem_iff_getElem?]) N;rw[List.drop_zero]at bJ;exact⟨as,bs,b6,⟨.struct bD (by rw[List.append_nil];exact bJ.Bf),bJ.len,bJ.zg,bJ.kv⟩⟩
  ·rename_i n e bD;rw[Bool.and_eq_true]at aw;have ad:=Nat.eq_of_beq_eq_true aw.1;obtain⟨aj,m,_,_,_,WV,hf⟩:=DataW.trod_array bD h;obtain⟨as,bs,b6,bJ⟩:=O2 (enc:=enc) (w:=w) (fun ds U vp N=>JR d e ds aw.2 U vp N) n ar (by omega) (fun i aq=>by grind) N;exact⟨as,bs,b6,⟨.array bD (by rw[List.append_nil];exact bJ.Bf),bJ.len,bJ.zg,bJ.kv⟩⟩
end
end Go.Ab
namespace Go.Ab
open Go Go.ChangeShapes Go.WideShapes Go.RowKit
noncomputable def lay(H:au)(bs:List (List Value)):au:=match bs with
 | []=>H
 | b::r=>lay ⟨H.t.set H.next (match b with|[]=>none|_::_=>some ⟨b,false⟩),Nat.succ H.next,H.dy,H.dO⟩ r
inductive ArgS (P:Program):List TypeId->Nat->List Value->List (List Value)->Prop
 | nil {N:Nat}:ArgS P [] N [] []
 | gd {t:TypeId} {el:List TypeId} {N:Nat} {v:Value} {bV:List Value} {b dE:List (List Value)}:(∀bR,P.underlying t≠some (.struct bR))->(∀n e,P.underlying t≠some (.array n e))->nm P [t] N [v] b->ArgS P el (N+b.length) bV dE->ArgS P (t::el) N (v::bV) (b++dE)
 | agg {t:TypeId} {el:List TypeId} {N:Nat} {ar bV:List Value} {b dE:List (List Value)}:((∃bR,P.underlying t=some (.struct bR))\/∃n e,P.underlying t=some (.array n e))->nm P [t] N ar b->ArgS P el (N+b.length) bV dE->ArgS P (t::el) N (.agg ar.toArray::bV) (b++dE)
section
variable{H:Type}{enc:TypeId×Value->H}{P:Program}{W:World}
theorem aly{d:Nat}{base:Nat}{r:Reach}{t:TypeId}{v:Value}(aw:supB P d t=true)(h:Value.okWide P W r base t v):
  v.cells.toList.length=P.cellsOf t/\(((∀bR,P.underlying t≠some (.struct bR))/\(∀n e,P.underlying t≠some (.array n e))/\v.cells.toList=[v])\/(((∃bR,P.underlying t=some (.struct bR))\/∃n e,P.underlying t=some (.array n e))/\∃ar,v=.agg ar)):=by
 have aBQ:∀ {aU:TypeDesc},P.underlying t=some aU->(∀bR,aU≠.struct bR)->(∀n e,aU≠.array n e)->P.cellsOf t=1->(aU=.bool\/aU=.string\/(∃k,aU=.int k)\/∃e,aU=.slice e)->v.cells.toList.length=P.cellsOf t/\(((∀bR,P.underlying t≠some (.struct bR))/\(∀n e,P.underlying t≠some (.array n e))/\v.cells.toList=[v])\/(((∃bR,P.underlying t=some (.struct bR))\/∃n e,P.underlying t=some (.array n e))/\∃ar,v=.agg ar)):=by
  intro aU bD ad af aA ag;have e:v.cells.toList=[v]:=by unfold Value.okWide at h;rw[bD]at h;rcases ag with rfl|rfl|⟨k,rfl⟩|⟨e,rfl⟩<;>simp only at h<;>unfold Cell.okWide at h<;>rw[bD]at h<;>simp only at h<;>unfold Cell.ok at h<;>rw[bD]at h<;>cases v<;>first|rfl|exact absurd h (by simp)
  simp_all
 cases d with
 | zero=>cases aw
 | succ d=>
  unfold supB at aw;split at aw<;>try (cases aw;done)
  ·simp_all
  ·simp_all
  ·simp_all
  ·simp_all
  ·rename_i bR bD;unfold Value.okWide at h;rw[bD]at h;obtain⟨ar,rfl,ad,_⟩:=h;exact⟨ad,.inr ⟨.inl ⟨_,bD⟩,ar,rfl⟩⟩
  ·rename_i n e bD;unfold Value.okWide at h;rw[bD]at h;obtain⟨ar,rfl,ad,_⟩:=h;exact⟨ad,.inr ⟨.inr ⟨_,_,bD⟩,ar,rfl⟩⟩
theorem WW{d:Nat}{base:Nat}{r:Reach}:∀(el:List TypeId) (bV:List Value) (ds:List (DataW H)) (p:List MemPlace),(∀t∈el,supB P d t=true)->(∀(j:Nat) (t:TypeId) (v:Value),el[j]?=some t->bV[j]?=some v->Value.okWide P W r base t v)->
  DataW.TrodAll enc P W 0 (fun _=>true) true el bV ds p->∀N,∃as bs b6,ArgS P el N as bs/\b6.length=bs.length/\bG (mJ N b6) as bV/\∀(i:Nat) (b:List Value) (x:Nat×Nat×Nat),bs[i]?=some b->b6[i]?=some x->DD (mJ N b6) W b x
 | [],[],[],p,_,_,_,N=>⟨[],[],[],.nil,rfl,.nil,fun i b x h=>by simp at h⟩
 | [],[],_::_,p,_,_,h,N=>h.elim
 | [],_::_,_,p,_,_,h,N=>h.elim
 | _::_,[],_,p,_,_,h,N=>h.elim
 | _::_,_::_,[],p,_,_,h,N=>h.elim
 | t::el,v::bV,x::ds,p,aw,fC,h,N=>by
  have aR:=h;have hv:=fC 0 t v rfl rfl;have WX:=aw t (by simp);obtain⟨dK,bP,⟨mi,hf⟩,U,_⟩:=aR;have lQ:rD enc P W t v.cells.toList:=⟨mi,_,hf⟩;obtain⟨hlen,jB⟩:=aly WX hv;obtain⟨as,bs,b6,ad⟩:=JR d t _ WX lQ hlen N;obtain⟨Bg,xR,so,af,ax,aO,bl⟩:=WW el bV ds bP (fun t ht=>aw t (by simp[ht])) (fun j t v ht hv=>fC (j+1) t v (by simp_all) (by simp_all)) U (N+bs.length);have iK:∀id x,mJ (N+bs.length) so id=some x->mJ N (b6++so) id=some x:=by rw[<- ad.len];exact O1
  have n7:∀(i:Nat) (b:List Value) (x:Nat×Nat×Nat),(bs++xR)[i]?=some b->(b6++so)[i]?=some x->DD (mJ N (b6++so)) W b x:=by
   intro i b x an ao;by_cases aq:i<bs.length
   ·rw[List.getElem?_append_left aq]at an;rw[List.getElem?_append_left (by rw[ad.len];exact aq)]at ao;exact(ad.kv i b x an ao).mono Gc
   ·rw[List.getElem?_append_right (by omega)]at an;rw[List.getElem?_append_right (by rw[ad.len];omega),ad.len]at ao;exact(bl _ b x an ao).mono iK
  have JT:(b6++so).length=(bs++xR).length:=by rw[List.length_append,List.length_append,ad.len,ax]
  rcases jB with⟨CX,F2,aA⟩|⟨aX,ar,rfl⟩
  ·rw[aA]at ad;have jZ:=ad.zg;obtain⟨a,rfl⟩:∃a,as=[a]:=List.length_eq_one_iff.1 (by rw[jZ.length];rfl);exact⟨a::Bg,bs++xR,b6++so,.gd CX F2 ad.Bf af,JT,(jZ.mono Gc).cons (aO.mono iK),n7⟩
  ·refine⟨.agg as.toArray::Bg,bs++xR,b6++so,.agg aX ad.Bf af,JT,.agg _ _ ?_ (aO.mono iK),n7⟩;exact ad.zg.mono Gc
end
theorem JU:∀n,(start n).t.rC n
 | 0=>fun m aV=>absurd aV (Nat.not_lt_zero _)
 | n+1=>fun m aV=>by
  have e:(start (n+1)).t=(start n).t.set n none:=rfl;rw[e];by_cases h:m=n
  ·simp_all[Tr.zb,JU]
  ·exact Tr.za _ _ _ _ (JU n m (by omega))
noncomputable def DE(b:List Value):Option az:=match b with|[]=>none|_::_=>some ⟨b,false⟩
theorem alz(H:au)(b:List Value)(r:List (List Value)):lay H (b::r)=lay ⟨H.t.set H.next (DE b),Nat.succ H.next,H.dy,H.dO⟩ r:=rfl
structure alA (H:au) (bs:List (List Value)) (ab:au):Prop where
 next:ab.next=H.next+bs.length
 dy:ab.dy=H.dy
 dO:ab.dO=H.dO
 h9:H.t.rC H.next->ab.t.rC ab.next
 old:∀i,i<H.next->ab.get i=H.get i
 cN:H.t.rC H.next->∀j b,bs[j]?=some b->ab.get (H.next+j)=DE b
 aT:∀i b,ab.get i=some b->H.get i=some b\/∃j c,i=H.next+j/\bs[j]?=some c/\DE c=some b
theorem O3:∀(bs:List (List Value)) (H:au),alA H bs (lay H bs)
 | [],H=>⟨rfl,rfl,rfl,fun h=>h,fun _ _=>rfl,fun _ j b h=>by simp at h,fun i b h=>.inl h⟩
 | b::r,H=>by
  have bd:=O3 r ⟨H.t.set H.next (DE b),Nat.succ H.next,H.dy,H.dO⟩;rw[alz];have JV:H.t.rC H.next->(H.t.set H.next (DE b)).rC (Nat.succ H.next):=fun bD m aV=>by
   by_cases h:m=H.next
   ·subst h;exact(Tr.zb _ _ _ bD).2
   ·exact Tr.za _ _ _ _ (bD m (by omega))
  refine⟨by rw[bd.next];simp only[List.length_cons];omega,bd.dy,bd.dO,fun bD=>bd.h9 (JV bD),fun i aq=>?_,fun bD j c bp=>?_,fun i x ao=>?_⟩
  ·rw[bd.old i (by show i<Nat.succ H.next;omega)];exact Tr.lL _ _ _ _ (by omega)
  ·cases j with
   | zero=>simp at bp;subst bp;rw[bd.old (H.next+0) (by show _<Nat.succ H.next;omega)];exact(Tr.zb _ _ _ bD).1
   | succ j=>have:=bd.cN (JV bD) j c (by simpa using bp);rw[show H.next+(j+1)=Nat.succ H.next+j by omega];exact this
  ·rcases bd.aT i x ao with h|⟨j,c,ad,af,ax⟩
   ·rcases Tr.CR _ _ _ _ _ h with⟨bn,bF⟩|⟨_,bF⟩
    ·exact .inr ⟨0,b,bn,by simp,bF⟩
    ·exact .inl bF
   ·exact .inr ⟨j+1,c,by rw[ad];show Nat.succ H.next+j=_;omega,by simpa using af,ax⟩
def Gd(N:Nat):List (List Value)->List (Nat×az)
 | []=>[]
 | b::r=>(N,⟨b,false⟩)::Gd (N+1) r
theorem JW:∀(bs:List (List Value)) (N:Nat) (x:Nat×az),x∈Gd N bs->∃(j:Nat) (b:List Value),bs[j]?=some b/\x=(N+j,⟨b,false⟩)
 | [],N,x,h=>by cases h
 | b::r,N,x,h=>by
  rcases List.mem_cons.1 h with rfl|h
  ·exact⟨0,b,by simp,rfl⟩
  ·obtain⟨j,c,ad,af⟩:=JW r (N+1) x h;exact⟨j+1,c,by simpa using ad,by rw[af];congr 1;omega⟩
theorem WY:∀(bs:List (List Value)) (N:Nat),((Gd N bs).map (·.1)).Nodup
 | [],N=>.nil
 | b::r,N=>by show(N::(Gd (N+1) r).map (·.1)).Nodup;refine List.nodup_cons.2 ⟨fun h=>?_,WY r (N+1)⟩;obtain⟨x,ao,e⟩:=List.mem_map.1 h;obtain⟨j,c,_,rfl⟩:=JW r (N+1) x ao;simp at e;omega
theorem st_args(G:Nat)(bs:List (List Value)):al (lay (start G) bs) (Gd G bs):=by
 have h:=O3 bs (start G);refine⟨by rw[h.dy];rfl,h.h9 (JU G),WY bs G,fun x ao=>?_,fun x ao aM=>?_,h.dO,fun x ao=>(by cases ao)⟩
 ·obtain⟨j,b,ad,rfl⟩:=JW bs G x ao;rw[h.next];have:=(List.getElem?_eq_some_iff.1 ad).1;show G+j<G+bs.length;omega
 ·obtain⟨j,b,ad,rfl⟩:=JW bs G x ao;have:(lay (start G) bs).get (G+j)=DE b:=h.cN (JU G) j b ad;rcases aM with aM|aM
  ·cases aM
  ·show(lay (start G) bs).get (G+j)=_;rw[this];cases b with
   | nil=>simp_all
   | cons _ _=>rfl
section
variable{H:Type}{enc:TypeId×Value->H}{P:Program}{W:World}[ep]
theorem law_calls(dz:goodB P=true)(bJ:@FO (nJ W) _ P){f:FuncId}{el:List TypeId}{d:Nat}(aw:∀t∈el,supB P d t=true)
  (ag:∀as bs,ArgS P el P.globals.size as bs->wCall P f as (lay (start P.globals.size) bs) fun v _=>v=.bool true)
  {base:Nat} {r:Reach} {args:Array Value} {ds:List (DataW H)} {p:List MemPlace} (fC:∀(j:Nat) (t:TypeId) (v:Value),el[j]?=some t->args.toList[j]?=some v->Value.okWide P W r base t v)
  (hA:DataW.TrodAll enc P W 0 (fun _=>true) true el args.toList ds p):Calls P f args W fun e aL=>e=.returned (.bool true)/\RowKit.Below W.heap.size W aL:=by
 obtain⟨as,bs,b6,ad,af,ax,aO⟩:=WW el args.toList ds p aw fC hA P.globals.size;obtain⟨n,cP,v,ab,xS,rfl⟩:=ag as bs ad;have aD:=O3 bs (start P.globals.size)
 let σ:cQ:=fun id=>if id<P.globals.size then some (id,0,0)else mJ P.globals.size b6 id
 have eg:∀id x,mJ P.globals.size b6 id=some x->σ id=some x:=fun id x ao=>by
  show(if _ then _ else _)=_
  simp_all[if_neg,mJ]
 have n9:∀id o,(lay (start P.globals.size) bs).cK id=some o->∃(j:Nat) (b:List Value),id=P.globals.size+j/\bs[j]?=some b/\b≠[]/\o=.cells ⟨b,false⟩:=by
  intro id o e4;unfold au.cK at e4;rw[aD.dO]at e4;cases hg:(lay (start P.globals.size) bs).get id with
  | none=>rw[hg]at e4;cases e4
  | some x=>
   rw[hg]at e4;cases e4;rcases aD.aT id x hg with h|⟨j,c,bn,bF,ey⟩
   ·simp_all[V8]
   ·cases c with
    | nil=>cases ey
    | cons y z=>cases ey;exact⟨j,_,bn,bF,by simp,rfl⟩
 letI:=nJ W
 have ew:gY P W.heap.size σ (lay (start P.globals.size) bs).cK (lay (start P.globals.size) bs) W:=by
  refine⟨⟨fun id b an=>?_,fun id b an aM=>?_,fun i j hY fY _ aq _ aM=>?_⟩,fun id b an=>an,Nat.le_refl _,fun g hg=>⟨0,by grind⟩,⟨fun i aq=>?_,fun i aq=>?_⟩,by rw[aD.dy];exact Nat.zero_le _,fun _ _=>rfl,Nat.le_refl _⟩
  ·obtain⟨j,c,rfl,bF,ey,rfl⟩:=n9 id b an;have ea:j<b6.length:=by grind
   obtain⟨x,ao⟩:∃x,b6[j]?=some x:=⟨_,List.getElem?_eq_getElem ea⟩;obtain⟨dk,c2,et,bP,ca,dH,eG⟩:=aO j c x bF ao ey;obtain⟨zh,Ge,JX⟩:=x;refine⟨zh,Ge,JX,dk,c2,et,eg _ _ ?_,bP,ca,dH,eG.mono eg,fun h=>by cases h⟩
   simp_all[mJ]
  ·obtain⟨j,c,_,_,_,rfl⟩:=n9 id b an;cases aM
  ·obtain⟨j,c,_,_,_,rfl⟩:=n9 i hY aq;cases aM
  ·cases bJ:(lay (start P.globals.size) bs).cK i with
   | none=>simp_all
   | some o=>obtain⟨j,c,rfl,bF,_,_⟩:=n9 i o bJ;have:=(List.getElem?_eq_some_iff.1 bF).1;rw[aD.next];show P.globals.size+j<P.globals.size+bs.length;omega
  ·rw[aD.dO]at aq;exact absurd rfl aq
 have cJ:gy σ (lay (start P.globals.size) bs).next ab.next:=by
  intro i ad _;rw[aD.next]at ad;have ad:P.globals.size+bs.length<=i:=ad;show(if i<P.globals.size then _ else _)=_;rw[if_neg (by omega)];unfold mJ
  grind
 have aA:=((akA (V7 dz) bJ n).call f as _ cP (.bool true) ab xS W.heap.size σ _ W args ew cJ (ax.mono eg)).2;refine(CallsIn.calls aA (ai1 none)).mono ?_;rintro e aL ⟨aQ,τ,a7,rfl,hv,aw⟩;cases hv;refine⟨rfl,aw.gZ.os,aw.gZ.tape,aw.gZ.output,aw.gZ.size,fun k ag=>aw.gZ.kN k ag ?_⟩;rintro⟨id,b,_,_,an,aM,_⟩;obtain⟨j,c,_,_,_,rfl⟩:=n9 id b an;cases aM
omit [ep] in
theorem trodAll_len{base:Nat}{cF:Nat->Bool}{aJ:Bool}:∀ {el:List TypeId} {bV:List Value} {ds:List (DataW H)} {p:List MemPlace},DataW.TrodAll enc P W base cF aJ el bV ds p->ds.length=el.length
 | [],[],[],_,_=>rfl
 | [],[],_::_,_,h=>h.elim
 | [],_::_,_,_,h=>h.elim
 | _::_,[],_,_,h=>h.elim
 | _::_,_::_,[],_,h=>h.elim
 | _::_,_::_,_::_,_,⟨_,_,_,h,_⟩=>by simp[trodAll_len h]
omit [ep] in
theorem WZ(aD:laidOutB P=true){W':World}(an:RowKit.Below W.heap.size W W'):∀(el:List TypeId) (bV:List Value) (ds:List (DataW H)) (p:List MemPlace),(∀t∈el,P.readableRec t=true/\t<P.types.size)->
  DataW.TrodAll enc P W 0 (fun _=>true) true el bV ds p->(∀x∈p,x.block<W.heap.size)->DataW.TrodAll enc P W' 0 (fun b=>decide (b<W.heap.size)) true el bV ds p
 | [],[],[],p,_,h,_=>h
 | [],[],_::_,p,_,h,_=>h.elim
 | [],_::_,_,p,_,h,_=>h.elim
 | _::_,[],_,p,_,h,_=>h.elim
 | _::_,_::_,[],p,_,h,_=>h.elim
 | t::el,v::bV,d::ds,p,U,⟨dK,bP,ad,af,e⟩,ea=>by subst e;obtain⟨bQ,cE⟩:=U t (by simp);exact⟨dK,bP,RowKit.Below.trod aD bQ cE ad an fun x ao=>ea x (by simp[ao]),WZ aD an el bV ds bP (fun t ht=>U t (by simp[ht])) af fun x ao=>ea x (by simp[ao]),rfl⟩
omit [ep] in
theorem post_law{f:Func}{s:ChangeSpec}{A0 alB alC:Bool}{W':World}{args:Array Value}{v:Value}{ds gs:List (DataW H)}{before:List MemPlace}(aD:laidOutB P=true)
  (lQ:∀t∈f.params.toList,P.readableRec t=true/\t<P.types.size) (Xa:s.vars=[]) (hW:DataW.Whole enc P f.params.toList s.vars A0 W args.toList ds gs before) (an:RowKit.Below W.heap.size W W')
  (rq:∀(b:Nat) (cF:Nat->Bool) (aJ:Bool),DataW.TrodAll enc P W' b cF aJ f.resultTypes.toList (v.resultList f.resultTypes.size) (s.fn H (ds++gs)).results [])
  (A4:(s.fn H (ds++gs)).args=ds) (alD:(s.fn H (ds++gs)).vars=[]):s.post enc P f A0 alB alC false W args v W':=by
 have ea:∀x∈before,x.block<W.heap.size:=fun x ao=>hW.lt x ao
 have alE:=hW;obtain⟨p,q,ad,af,rfl,ax,aO⟩:=hW;rw[Xa]at af;obtain⟨rfl,rfl⟩:=trodVars_none af;refine⟨ds,[],_,[],p,[],alE,rq _ _ _,?_,?_,an.frame _,fun h=>by cases h⟩
 ·simp_all[WZ]
 ·rw[Xa,alD];exact rfl
end
end Go.Ab
namespace Go.Ab
open Go
local instance:hy:=⟨fun _=>none,0⟩
section
variable[ep][b0]{P:Program}{H:au}{Γ:List (Nat×az)}
omit [ep] in
theorem aC{L:List (Nat×az)}{k:Nat}{x:Nat×az}(h:L[k]?=some x):(Γ++L)[Γ.length+k]?=some x:=by grind
omit [ep] in
theorem aS{L:List (Nat×az)}{j:Nat}{x:Nat×az}(h:Γ[j]?=some x):(Γ++L)[j]?=some x:=by grind
omit [ep] in
theorem cy{L:List (Nat×az)}{k:Nat}{x:Nat×az}:(Γ++L).set (Γ.length+k) x=Γ++L.set k x:=by simp_all
theorem al.cy{L:List (Nat×az)}{k:Nat}{x:Nat×az}(h:al H ((Γ++L).set (Γ.length+k) x)):al H (Γ++L.set k x):=by simp_all
omit [ep] in
theorem O4{m:Nat}{x:Nat×az}(h:Γ[m]?=some x):Γ.set m x=Γ:=by
 have aD:=(List.getElem?_eq_some_iff.1 h).1;apply List.ext_getElem?
 grind
theorem al.kN{L:List (Nat×az)}(n:Nat)(h:al H (Γ++L)):al H (Γ++L.take n):=h.sub (List.Sublist.append (List.Sublist.refl _) (List.take_sublist n L))
def wJ(Γ:List (Nat×az))(v:Value)(k:IntKind)(aj:List Int):Prop:=
 (v=bB/\aj=[])\/∃(p c j:Nat),v=aF p 0 aj.length c/\Γ[j]?=some (p,(⟨aj.map (Value.int k),false⟩:az))
theorem wJ.len{v:Value}{k:IntKind}{aj:List Int}(h:wJ Γ v k aj):cG v H=some (int aj.length,H):=by rcases h with⟨rfl,rfl⟩|⟨p,c,j,rfl,_⟩<;>rfl
theorem wJ.bh{v:Value}{k:IntKind}{aj:List Int}(h:wJ Γ v k aj)(bM:0<aj.length):∃(p c j:Nat),v=aF p 0 aj.length c/\Γ[j]?=some (p,(⟨aj.map (Value.int k),false⟩:az)):=by
 rcases h with⟨_,rfl⟩|h
 ·simp at bM
 ·exact h
theorem alF{k:IntKind}{n:Int}(ad:-9223372036854775808<=n)(af:n<=9223372036854775807):j5 .i64 (.int k n) H=some (int n,H):=by show some (Value.int .i64 (iY .i64 n),H)=_;rw[y9 ad af]
theorem JY{k:IntKind}{t:TypeId}{c:Bool}{a b:Int}(an:b≠0):(ay P .rem t c).f (.int k a) (.int k b)=some (.int k (a.tmod b)):=by
 rw[qT a b rfl];show(match oW b 0 with|true=>none|false=>some (Value.int k (a.tmod b)))=_
 simp_all[rm]
end
section
variable{P:Program}
theorem arg_nil{N:Nat}{as:List Value}{b:List (List Value)}(h:ArgS P [] N as b):as=[]/\b=[]:=by cases h;simp_all
theorem wJ.bo{Γ b8:List (Nat×az)}{v:Value}{k:IntKind}{aj:List Int}(h:wJ Γ v k aj):wJ (Γ++b8) v k aj:=by
 rcases h with h|⟨p,c,j,ad,af⟩
 ·exact .inl h
 ·exact .inr ⟨p,c,j,ad,aS af⟩
theorem wJ.jv{Γ b8:List (Nat×az)}{v:Value}{k:IntKind}{aj:List Int}(h:wJ b8 v k aj):wJ (Γ++b8) v k aj:=by
 rcases h with h|⟨p,c,j,ad,af⟩
 ·exact .inl h
 ·exact .inr ⟨p,c,Γ.length+j,ad,aC af⟩
def wK(Γ:List (Nat×az))(v:Value)(aj:List (Int×Int)):Prop:=
 (v=bB/\aj=[])\/∃(p c j:Nat),v=aF p 0 aj.length c/\Γ[j]?=some (p,(⟨aj.flatMap fun a=>[int a.1,int a.2],false⟩:az))
theorem wK.len{Γ:List (Nat×az)}{v:Value}{aj:List (Int×Int)}{H:au}(h:wK Γ v aj):cG v H=some (int aj.length,H):=by rcases h with⟨rfl,rfl⟩|⟨p,c,j,rfl,_⟩<;>rfl
theorem wK.bh{Γ:List (Nat×az)}{v:Value}{aj:List (Int×Int)}(h:wK Γ v aj)(bM:0<aj.length):∃(p c j:Nat),v=aF p 0 aj.length c/\Γ[j]?=some (p,(⟨aj.flatMap fun a=>[int a.1,int a.2],false⟩:az)):=by
 rcases h with⟨_,rfl⟩|h
 ·simp at bM
 ·exact h
theorem wK.bo{Γ b8:List (Nat×az)}{v:Value}{aj:List (Int×Int)}(h:wK Γ v aj):wK (Γ++b8) v aj:=by
 rcases h with h|⟨p,c,j,ad,af⟩
 ·exact .inl h
 ·exact .inr ⟨p,c,j,ad,aS af⟩
theorem wK.jv{Γ b8:List (Nat×az)}{v:Value}{aj:List (Int×Int)}(h:wK b8 v aj):wK (Γ++b8) v aj:=by
 rcases h with h|⟨p,c,j,ad,af⟩
 ·exact .inl h
 ·exact .inr ⟨p,c,Γ.length+j,ad,aC af⟩
end
end Go.Ab
namespace Go.Ab
open Go
local instance:hy:=⟨fun _=>none,0⟩
inductive pa|b|i (k:IntKind)|s
def alG:pa->Value->Prop
 | .b,.bool _=>True
 | .i k,.int fh _=>k=fh
 | .s,.string _=>True
 | _,_=>False
def kX:List pa->List Value->Prop
 | [],[]=>True
 | k::gJ,v::bV=>alG k v/\kX gJ bV
 | _,_=>False
def DF:Value->Value->Bool
 | .bool a,.bool b=>a==b
 | .int _ a,.int _ b=>decide (a=b)
 | .string a,.string b=>a.data.toList==b.data.toList
 | _,_=>false
def oH:List Value->List Value->Bool
 | [],[]=>true
 | x::aj,y::bg=>DF x y&&oH aj bg
 | _,_=>false
theorem kX.len:∀ {gJ:List pa} {bV:List Value},kX gJ bV->bV.length=gJ.length
 | [],[],_=>rfl
 | _::_,_::_,h=>by simp[kX.len h.2]
theorem kX.bo:∀ {a b:List pa} {bV:List Value},kX (a++b) bV->kX a (bV.take a.length)/\kX b (bV.drop a.length)
 | [],b,bV,h=>⟨trivial,h⟩
 | k::a,b,v::bV,h=>⟨⟨h.1,(kX.bo (a:=a) h.2).1⟩,(kX.bo (a:=a) h.2).2⟩
theorem O5:∀(n:Nat) (aj bg:List Value),n<=aj.length->aj.length=bg.length->oH aj bg=(oH (aj.take n) (bg.take n)&&oH (aj.drop n) (bg.drop n))
 | 0,aj,bg,_,_=>by simp[oH]
 | n+1,x::aj,y::bg,h,e=>by show(DF x y&&oH aj bg)=((DF x y&&oH (aj.take n) (bg.take n))&&oH (aj.drop n) (bg.drop n));rw[O5 n aj bg (by simpa using h) (by simpa using e),Bool.and_assoc]
 | n+1,[],_,h,_=>by simp at h
 | n+1,_::_,[],_,e=>by simp at e
section
variable(P:Program)
def JZ(F:TypeId->Option (List pa)):List Field->Nat->Option (List pa)
 | [],_=>some []
 | f::bR,off=>
  if f.name== "_" then none else
  match Nat.beq f.offset off,gM P f.type,F f.type with
  | true,some m,some gJ=>(match Nat.beq gJ.length m,JZ F bR (off+m)with
   | true,some r=>some (gJ++r)
   | _,_=>none)
  | _,_,_=>none
def DG:Nat->List pa->List pa
 | 0,_=>[]
 | n+1,l=>l++DG n l
def qU:Nat->TypeId->Option (List pa)
 | 0,_=>none
 | d+1,t=>
  match P.underlying t,p4 P t with
  | some .bool,some false=>some [.b]
  | some (.int k),some false=>some [.i k]
  | some .string,some false=>some [.s]
  | some (.struct bR),some true=>if P.stoodInHeld t then none else JZ P (qU d) bR.toList 0
  | some (.array n e),some true=>(match gM P e,qU d e with
   | some m,some gJ=>(match Nat.beq gJ.length m with|true=>some (DG n gJ)|false=>none)
   | _,_=>none)
  | _,_=>none
variable{P}
def rE(P:Program)(t:TypeId)(ar:List Value):Option Value:=
 match p4 P t with
 | some true=>some (.agg ar.toArray)
 | some false=>ar[0]?
 | none=>none
theorem J0{t:TypeId}{ar:List Value}{off n:Nat}{gJ:List pa}(aw:gM P t=some n)(hf:kX gJ ((ar.drop off).take n))(ag:gJ.length=n)(ad:p4 P t=some false->n=1):sS P t ar off=rE P t ((ar.drop off).take n):=by
 unfold sS rE;rw[aw]
 match h:p4 P t with
 | some true=>grind[mD,nE]
 | some false=>simp_all[vb]
 | none=>rfl
theorem O6{d:Nat}{t:TypeId}{gJ:List pa}(h:qU P d t=some gJ)(br:p4 P t=some false):gJ.length=1:=by
 cases d with
 | zero=>cases h
 | succ d=>grind[qU]
theorem Ka{d:Nat}{t:TypeId}{gJ:List pa}{aj:List Value}(h:qU P d t=some gJ)(ao:kX gJ aj):∃v,rE P t aj=some v:=by
 unfold rE
 match br:p4 P t with
 | some true=>simp_all
 | some false=>
  have ad:=O6 h br;have:=ao.len
  simp_all
 | none=>
  cases d with
  | zero=>cases h
  | succ d=>simp_all[qU]
def O7(P:Program)(sT:TypeId->Value->Value->Option Bool)(F:TypeId->Option (List pa)):Prop:=
 ∀t gJ aj bg x y,F t=some gJ->kX gJ aj->kX gJ bg->rE P t aj=some x->rE P t bg=some y->sT t x y=some (oH aj bg)
theorem Xb{sT:TypeId->Value->Value->Option Bool}{d:Nat}(hg:O7 P sT (qU P d))(aj bg:List Value):
  ∀(bR:List Field) (off:Nat) (gJ:List pa),JZ P (qU P d) bR off=some gJ->kX gJ (aj.drop off)->kX gJ (bg.drop off)->eqFields P sT aj bg bR=some (oH (aj.drop off) (bg.drop off))
 | [],off,gJ,h,ao,ba=>by cases h;have bn:aj.drop off=[]:=List.length_eq_zero_iff.1 ao.len;have bF:bg.drop off=[]:=List.length_eq_zero_iff.1 ba.len;rw[bn,bF];rfl
 | f::bR,off,gJ,h,ao,ba=>by
  unfold JZ at h;unfold eqFields;split at h
  ·cases h
  ·rename_i alH;rw[if_neg alH];split at h
   ·rename_i m aBR bJ aw hf;split at h
    ·rename_i r aD U;cases h;have bJ:=Nat.eq_of_beq_eq_true bJ;have aD:=Nat.eq_of_beq_eq_true aD;subst bJ;obtain⟨sg,s4⟩:=ao.bo;obtain⟨xT,Bi⟩:=ba.bo;rw[aD]at sg s4 xT Bi;have ad:p4 P f.type=some false->m=1:=fun br=>by grind[O6]
     rw[J0 aw sg aD ad,J0 aw xT aD ad];obtain⟨v,hv⟩:=Ka hf sg;obtain⟨w,aM⟩:=Ka hf xT;rw[hv,aM];simp only;rw[hg _ _ _ _ _ _ hf sg xT hv aM];rw[List.drop_drop]at s4 Bi;have bd:=Xb hg aj bg bR (f.offset+m) r U s4 Bi;have O8:=ao.len;have O9:=ba.len;rw[List.length_append]at O8 O9;rw[O5 m (aj.drop f.offset) (bg.drop f.offset) (by omega) (by omega),List.drop_drop,List.drop_drop];cases aA:oH ((aj.drop f.offset).take m) ((bg.drop f.offset).take m)with
     | true=>simp_all
     | false=>rfl
    ·cases h
   ·cases h
theorem Xc{sT:TypeId->Value->Value->Option Bool}{d:Nat}(hg:O7 P sT (qU P d)){e:TypeId}{m:Nat}{gJ:List pa}(aw:gM P e=some m)(hf:qU P d e=some gJ)(aD:gJ.length=m)(aj bg:List Value):
  ∀(n i:Nat),kX (DG n gJ) (aj.drop (i*m))->kX (DG n gJ) (bg.drop (i*m))->CB P (sT e) e m aj bg n i=some (oH (aj.drop (i*m)) (bg.drop (i*m)))
 | 0,i,ao,ba=>by have bn:aj.drop (i*m)=[]:=List.length_eq_zero_iff.1 ao.len;have bF:bg.drop (i*m)=[]:=List.length_eq_zero_iff.1 ba.len;rw[bn,bF];rfl
 | n+1,i,ao,ba=>by
  unfold CB;have ao:kX (gJ++DG n gJ) (aj.drop (i*m)):=ao;have ba:kX (gJ++DG n gJ) (bg.drop (i*m)):=ba;obtain⟨sg,s4⟩:=ao.bo;obtain⟨xT,Bi⟩:=ba.bo;rw[aD]at sg s4 xT Bi;have ad:p4 P e=some false->m=1:=fun br=>by grind[O6]
  rw[J0 aw sg aD ad,J0 aw xT aD ad];obtain⟨v,hv⟩:=Ka hf sg;obtain⟨w,aM⟩:=Ka hf xT;rw[hv,aM];simp only;rw[hg _ _ _ _ _ _ hf sg xT hv aM];rw[List.drop_drop,<- Nat.succ_mul]at s4 Bi;have bd:=Xc hg aw hf aD aj bg n (i+1) s4 Bi;have O8:=ao.len;have O9:=ba.len;rw[List.length_append]at O8 O9;rw[O5 m (aj.drop (i*m)) (bg.drop (i*m)) (by omega) (by omega),List.drop_drop,List.drop_drop,<- Nat.succ_mul];cases aA:oH ((aj.drop (i*m)).take m) ((bg.drop (i*m)).take m)with
  | true=>simp_all
  | false=>rfl
theorem Pa:∀(d D:Nat),d<=D->O7 P (nZ P D) (qU P d)
 | 0,_,_=>fun t gJ aj bg x y h=>by cases h
 | d+1,0,h=>by omega
 | d+1,D+1,aJ=>fun t gJ aj bg x y h ao ba jK qV=>by
  have bd:=Pa d D (by omega);unfold qU at h;unfold nZ;split at h
  ·rename_i bD br;cases h;rw[bD];unfold rE at jK qV;rw[br]at jK qV
   match aj,bg,ao,ba,jK,qV with
   | [.bool a],[.bool b],_,_,jK,qV=>grind[oH,DF]
  ·rename_i k bD br;cases h;rw[bD];unfold rE at jK qV;rw[br]at jK qV
   match aj,bg,ao,ba,jK,qV with
   | [.int eJ a],[.int hx b],ao,ba,jK,qV=>
    cases jK;cases qV;have bn:k=eJ:=ao.1;have bF:k=hx:=ba.1;subst bn;subst bF;have:tK k k=true:=by cases k<;>rfl
    simp_all[oH,DF,rm]
  ·rename_i bD br;cases h;rw[bD];unfold rE at jK qV;rw[br]at jK qV
   match aj,bg,ao,ba,jK,qV with
   | [.string a],[.string b],_,_,jK,qV=>grind[oH,DF]
  ·rename_i bR bD br;rw[bD];unfold rE at jK qV;rw[br]at jK qV;cases jK;cases qV;split at h
   ·cases h
   ·rename_i fT;simp only;rw[if_neg fT];have:=Xb bd aj bg bR.toList 0 gJ h ao ba
    simp_all
  ·grind[rE,Nat.eq_of_beq_eq_true,Xc]
  ·cases h
theorem alI{t:TypeId}{c:Bool}{gJ:List pa}{aj bg:List Value}(ag:qU P 100 t=some gJ)(br:p4 P t=some true)(hg:P.eqGuardType P.depth t=false)(ao:kX gJ aj)(ba:kX gJ bg):(ay P .eql t c).f (.agg aj.toArray) (.agg bg.toArray)=some (.bool (oH aj bg)):=by
 show(if u2 P t c (.agg aj.toArray) (.agg bg.toArray)then(nZ P 100 t (.agg aj.toArray) (.agg bg.toArray)).map Value.bool else none)=_;have ad:u2 P t c (.agg aj.toArray) (.agg bg.toArray)=true:=by show(!P.eqGuardType P.depth t)=true;grind
 rw[if_pos ad,Pa 100 100 (Nat.le_refl _) t gJ aj bg _ _ ag ao ba (by simp_all[rE]) (by simp_all[rE])];rfl
theorem Xd{t:TypeId}{c:Bool}{gJ:List pa}{aj bg:List Value}(ag:qU P 100 t=some gJ)(br:p4 P t=some true)(hg:P.eqGuardType P.depth t=false)(ao:kX gJ aj)(ba:kX gJ bg):(ay P .neq t c).f (.agg aj.toArray) (.agg bg.toArray)=some (.bool !(oH aj bg)):=by
 show(if u2 P t c (.agg aj.toArray) (.agg bg.toArray)then(nZ P 100 t (.agg aj.toArray) (.agg bg.toArray)).map (fun r=>Value.bool !r)else none)=_;have ad:u2 P t c (.agg aj.toArray) (.agg bg.toArray)=true:=by show(!P.eqGuardType P.depth t)=true;grind
 rw[if_pos ad,Pa 100 100 (Nat.le_refl _) t gJ aj bg _ _ ag ao ba (by simp_all[rE]) (by simp_all[rE])];rfl
end
end Go.Ab
namespace Go.Ab
open Go
def DH:IntKind->Nat
 | .u8=>8
 | .u16=>16
 | .u32=>32
 | .u64=>64
 | _=>0
def td:IntKind->Bool
 | .u8=>true
 | .u16=>true
 | .u32=>true
 | .u64=>true
 | _=>false
def gu(k:IntKind):Nat:=2^DH k
abbrev bS(k:IntKind)(a:Nat):Value:=.int k (a:Int)
section
variable[ep]{P:Program}{k fh:IntKind}{t:TypeId}{c:Bool}{a b n:Nat}{H:au}
theorem vz(ag:td k=true):iY k (a:Int)=((a%gu k:Nat):Int):=by cases k<;>first|(cases ag;done)|rfl
theorem Bj(ag:td k=true):ov k (a:Int)=a%gu k:=by cases k<;>first|(cases ag;done)|rfl
theorem vA(ag:td k=true)(br:a<gu k)(an:b<gu k):(ay P .and t c).f (bS k a) (bS k b)=some (bS k (a&&&b)):=by rw[qT _ _ rfl];show some (Value.int k (iY k ((Nat.land (ov k a) (ov k b):Nat):Int)))=_;rw[Bj ag,Bj ag,Nat.mod_eq_of_lt br,Nat.mod_eq_of_lt an,vz ag,Nat.mod_eq_of_lt (show Nat.land a b<gu k from Nat.and_lt_two_pow a an)];rfl
theorem Bk(ag:td k=true)(br:a<gu k)(an:b<gu k):(ay P .or t c).f (bS k a) (bS k b)=some (bS k (a|||b)):=by rw[qT _ _ rfl];show some (Value.int k (iY k ((Nat.lor (ov k a) (ov k b):Nat):Int)))=_;rw[Bj ag,Bj ag,Nat.mod_eq_of_lt br,Nat.mod_eq_of_lt an,vz ag,Nat.mod_eq_of_lt (show Nat.lor a b<gu k from Nat.or_lt_two_pow br an)];rfl
theorem nM(ag:td k=true)(br:a<gu k)(an:b<gu k):(ay P .xor t c).f (bS k a) (bS k b)=some (bS k (a ^^^ b)):=by rw[qT _ _ rfl];show some (Value.int k (iY k ((Nat.xor (ov k a) (ov k b):Nat):Int)))=_;rw[Bj ag,Bj ag,Nat.mod_eq_of_lt br,Nat.mod_eq_of_lt an,vz ag,Nat.mod_eq_of_lt (show Nat.xor a b<gu k from Nat.xor_lt_two_pow br an)];rfl
theorem sq(ag:td k=true):(ay P .add t c).f (bS k a) (bS k b)=some (bS k ((a+b)%gu k)):=by rw[WH,show(a:Int)+(b:Int)=((a+b:Nat):Int) by simp,vz ag]
theorem Pb(ag:td k=true):(ay P .mul t c).f (bS k a) (bS k b)=some (bS k ((a*b)%gu k)):=by rw[WJ,show(a:Int)*(b:Int)=((a*b:Nat):Int) by simp,vz ag]
theorem Pc(ag:td k=true)(h:b<=a)(br:a<gu k):(ay P .sub t c).f (bS k a) (bS k b)=some (bS k (a-b)):=by rw[WI,show(a:Int)-(b:Int)=((a-b:Nat):Int) by omega,vz ag,Nat.mod_eq_of_lt (by omega)]
theorem xU(an:0<b):(ay P .rem t c).f (bS k a) (bS k b)=some (bS k (a%b)):=by grind[JY]
theorem Pd(ag:td k=true)(an:0<b)(br:a<gu k):(ay P .quo t c).f (bS k a) (bS k b)=some (bS k (a/b)):=by rw[qT _ _ rfl];show(match oW (b:Int) 0 with|true=>none|false=>some (Value.int k (iY k ((a:Int).tdiv b))))=_;rw[rm,decide_eq_false (by omega)];show some (Value.int k (iY k ((a/b:Nat):Int)))=_;rw[vz ag,Nat.mod_eq_of_lt (Nat.lt_of_le_of_lt (Nat.div_le_self _ _) br)]
theorem DI(ag:td k=true)(aX:n<=DH k):(ay P .shl t c).f (bS k a) (bS fh n)=some (bS k (a*2^n%gu k)):=by
 show Ah true k a n=_;have an:k.bits=DH k:=by cases k<;>first|(cases ag;done)|rfl
 unfold Ah;rw[if_neg (by omega),if_pos rfl,Int.toNat_natCast,an,Nat.min_eq_left aX,show(a:Int)*((2^n:Nat):Int)=((a*2^n:Nat):Int) by simp,vz ag]
theorem xV(ag:td k=true)(aX:n<=DH k):(ay P .shr t c).f (bS k a) (bS fh n)=some (bS k (a/2^n)):=by
 show Ah false k a n=_;have an:k.bits=DH k:=by cases k<;>first|(cases ag;done)|rfl
 unfold Ah
 grind
theorem alJ{w:Nat}(br:a<2^w):(2^w-1) ^^^ a=2^w-1-a:=by
 apply Nat.eq_of_testBit_eq;intro i;rw[show 2^w-1-a=2^w-(a+1) by omega,Nat.testBit_two_pow_sub_succ br,Nat.testBit_xor,Nat.testBit_two_pow_sub_one]
 grind[Nat.testBit_lt_two_pow,Nat.lt_of_lt_of_le,Nat.pow_le_pow_right]
theorem alK(ag:td k=true)(br:a<gu k):hE .xor (bS k a)=some (bS k (gu k-1-a)):=by
 show some (Value.int k (iY k ((Nat.xor (ov k (if k.signed then-1 else k.max)) (ov k (a:Int)):Nat):Int)))=_;have aV:ov k (if k.signed then-1 else k.max)=gu k-1:=by cases k<;>first|(cases ag;done)|rfl
 rw[aV,Bj ag,Nat.mod_eq_of_lt br,vz ag,show Nat.xor (gu k-1) a=(2^DH k-1) ^^^ a from rfl,alJ br,Nat.mod_eq_of_lt (by grind[gu])];rfl
theorem vB(ag:td fh=true):j5 fh (bS k a) H=some (bS fh (a%gu fh),H):=by show some (Value.int fh (iY fh (a:Int)),H)=_;rw[vz ag]
theorem DJ(h:a<=9223372036854775807):j5 .i64 (bS k a) H=some (int a,H):=alF (by omega) (by omega)
theorem Xe:(ay P .eql t c).f (bS k a) (bS k b)=some (.bool (decide (a=b))):=by simp_all[fz,Int.ofNat_inj]
end
end Go.Ab
namespace Go.Ab
open Go
abbrev bj(aj:List Int):List Value:=aj.map (Value.int .u8)
def cl(Γ:List (Nat×az))(v:Value)(aj:List Int):Prop:=
 (v=bB/\aj=[])\/∃p o c,v=aF p o aj.length c/\(c=2\/c=3)/\(aj=[]\/∃(j:Nat) (b:az),Γ[j]?=some (p,b)/\(b.cells.drop o).take aj.length=bj aj)
def fI(v:Value)(aj:List Int)(ar:List Value):Prop:=
 (v=bB/\aj=[]/\ar=[])\/∃p,(v=aF p 0 aj.length 2\/(v=aF p 0 aj.length 3/\ar.length=aj.length))/\ar.take aj.length=bj aj/\aj.length<=ar.length/\ar.all fH=true
section
variable[ep][b0]{P:Program}{H:au}{Γ b8:List (Nat×az)}{v x:Value}{aj bg:List Int}{ar:List Value}{aa:Value->au->Prop}
theorem cl.nil:cl Γ bB []:=.inl ⟨rfl,rfl⟩
theorem cl.lC(h:cl Γ v aj):∃a n c,v=.slice a n c:=by rcases h with⟨rfl,_⟩|⟨p,o,c,rfl,_⟩<;>exact⟨_,_,_,rfl⟩
theorem cl.cG(h:cl Γ v aj):cG v H=some (int aj.length,H):=by rcases h with⟨rfl,rfl⟩|⟨p,o,c,rfl,_⟩<;>rfl
theorem cl.mZ(h:cl Γ v aj):mZ v=some aj.length:=by rcases h with⟨rfl,rfl⟩|⟨p,o,c,rfl,_⟩<;>rfl
theorem cl.bo(h:cl Γ v aj):cl (Γ++b8) v aj:=by
 rcases h with h|⟨p,o,c,ad,af,ax|⟨j,b,ax,aO⟩⟩
 ·exact .inl h
 ·exact .inr ⟨p,o,c,ad,af,.inl ax⟩
 ·exact .inr ⟨p,o,c,ad,af,.inr ⟨j,b,aS ax,aO⟩⟩
theorem cl.jv(h:cl b8 v aj):cl (Γ++b8) v aj:=by
 rcases h with h|⟨p,o,c,ad,af,ax|⟨j,b,ax,aO⟩⟩
 ·exact .inl h
 ·exact .inr ⟨p,o,c,ad,af,.inl ax⟩
 ·exact .inr ⟨p,o,c,ad,af,.inr ⟨Γ.length+j,b,aC ax,aO⟩⟩
theorem fI.nil:fI bB [] []:=.inl ⟨rfl,rfl,rfl⟩
theorem fI.lR(h:fI v aj ar):cl (b2 v ar) v aj:=by
 rcases h with⟨rfl,rfl,rfl⟩|⟨p,rfl|⟨rfl,_⟩,af,ax⟩
 ·exact .nil
 ·exact .inr ⟨p,0,2,rfl,.inl rfl,.inr ⟨0,⟨ar,true⟩,rfl,by simp_all⟩⟩
 ·exact .inr ⟨p,0,3,rfl,.inr rfl,.inr ⟨0,⟨ar,true⟩,rfl,by simp_all⟩⟩
theorem fI.cG(h:fI v aj ar):cG v H=some (int aj.length,H):=h.lR.cG
theorem alL{b:az}{o:Nat}(ao:aj≠[])(h:(b.cells.drop o).take aj.length=bj aj):b.cells≠[]:=by
 intro e
 simp_all
theorem alM{b:az}{o:Nat}(h:(b.cells.drop o).take aj.length=bj aj):aj.length<=b.cells.length-o:=by
 have:=congrArg List.length h
 grind
theorem cl.pE(hO:al H Γ)(h:cl Γ v aj):sU H 1 aj.length v=some (bj aj):=by
 rcases h with⟨rfl,rfl⟩|⟨p,o,c,rfl,_,rfl|⟨j,b,ax,aO⟩⟩
 ·rfl
 ·rfl
 ·by_cases ao:aj=[]
  ·subst ao;rfl
  ·rw[Ga (hO.at j ax (.inr (alL ao aO))) (by have:=alM aO;grind[List.length_pos_iff]),Nat.mul_one,aO]
theorem cl.at(h:cl Γ v aj){i:Nat}(aq:i<aj.length):∃(p o c j:Nat) (b:az),v=aF p o aj.length c/\Γ[j]?=some (p,b)/\b.cells[o+i]?=some (Value.int .u8 aj[i]):=by
 rcases h with⟨rfl,rfl⟩|⟨p,o,c,rfl,_,rfl|⟨j,b,ax,aO⟩⟩
 ·simp at aq
 ·simp at aq
 ·refine⟨p,o,c,j,b,rfl,ax,?_⟩;have:=congrArg (·[i]?) aO
  grind
theorem te(hO:al H (Γ++b2 v ar))(hv:fI v aj ar)(ao:cl Γ x bg)(aD:aj.length+bg.length<=1000000000)
  (ag:∀ab aQ bx,al ab (Γ++b2 aQ bx)->fI aQ (aj++bg) bx->aa aQ ab):ah (gD 1 1 v x H) aa:=by
 unfold gD;simp only[ao.mZ,ao.bo.pE hO];by_cases ba:bg=[]
 ·subst ba;rw[List.append_nil]at ag;unfold qC;rcases hv with⟨rfl,rfl,rfl⟩|⟨p,rfl|⟨rfl,ad⟩,af,ax⟩
  ·exact cH (show some (bB,H)=_ from rfl) (ag _ _ _ hO .nil)
  ·exact cH (show some (aF p 0 aj.length 2,H)=_ from rfl) (ag _ _ _ hO (.inr ⟨p,.inl rfl,af,ax⟩))
  ·exact cH (show some (aF p 0 aj.length 3,H)=_ from rfl) (ag _ _ _ hO (.inr ⟨p,.inr ⟨rfl,ad⟩,af,ax⟩))
 have Bh:0<bg.length:=List.length_pos_iff.2 ba;have qQ:Nat.beq bg.length 0=false:=by grind[Nat.eq_of_beq_eq_true]
 have ad:(bj bg).all eP=true:=by simp[eP]
 have xP:∀p,fI (aF p 0 (aj.length+bg.length) 2) (aj++bg) (bj aj++bj bg):=fun p=>by
  refine .inr ⟨p,.inl (by simp_all),?_,by simp,by simp[fH,ta]⟩
  grind
 unfold qC;rcases hv with⟨rfl,rfl,rfl⟩|⟨p,hv,af,ax,aO⟩
 ·simp only[qQ,Bool.false_eq_true,if_false];rw[if_pos (wH (by omega) (by omega))];have hO:al H Γ:=by simp_all[b2]
  refine cH (show l1 (bj bg) bg.length (2*1) H=some (aF H.next 0 bg.length 2,H.push (bj bg))from rfl) (ag _ _ (bj bg) (hO.push _) ?_)
  simp_all
 ·have sn:b2 v ar=[(p,⟨ar,true⟩)]:=by rcases hv with rfl|⟨rfl,_⟩<;>rfl
  rw[sn]at hO;have aq:(Γ++[(p,(⟨ar,true⟩:az))])[Γ.length]?=some (p,⟨ar,true⟩):=by simp
  have n9:=hO.at _ aq (.inl rfl);rcases hv with rfl|⟨rfl,hlen⟩
  ·have xQ:=hO.fb aq;have he:(Γ++[(p,(⟨ar,true⟩:az))]).eraseIdx Γ.length=Γ:=by grind
   rw[he]at xQ;simp only[qQ,Bool.false_eq_true,if_false];rw[if_pos (wH (by omega) (by omega))];rw[if_neg (show¬Nat.beq 2 (2*1+1)=true by decide),if_pos (show Nat.beq 2 (2*1)=true by decide)];unfold Am;rw[n9];have e:(au.ou H p ⟨ar,true⟩&&(Nat.ble (0+aj.length*1) (fE ar)&&jT eP (bj bg)))=true:=by unfold au.ou;rw[hO.c6,gX,ki,ad,l3,l3,decide_eq_true (by omega:0+aj.length*1<=ar.length)];simp
   simp only[e];have bF:hT (p3 (pw ar (0+aj.length*1)) 0) (bj bg)=bj aj++bj bg:=by simp_all[iF,nE,mD]
   rw[bF];exact cH (show l1 (bj aj++bj bg) (aj.length+bg.length) (2*1) (H.set p none)=some (aF H.next 0 (aj.length+bg.length) 2,(H.set p none).push (bj aj++bj bg))from rfl) (ag _ _ _ (xQ.push _) (xP _))
  ·simp only[qQ,Bool.false_eq_true,if_false];rw[if_pos (wH (by omega) (by omega))];rw[if_pos (show Nat.beq 3 (2*1+1)=true by decide)];unfold yC;have C7:ar=bj aj:=by grind
   have ey:(if Nat.beq aj.length 0=true then some []else rZ H p 0 (aj.length*1))=some (bj aj):=by simp_all[AB,xe,mD,nE,gX]
   rw[ey];simp only[iF];exact cH (show l1 (bj aj++bj bg) (aj.length+bg.length) (2*1) H=some (aF H.next 0 (aj.length+bg.length) 2,H.push (bj aj++bj bg))from rfl) (ag _ _ _ (hO.left.push _) (xP _))
theorem zi{q:Nat}{w:Bool}(hO:al H ((Γ++b2 v ar)++[(q,⟨bj bg,w⟩)]))(hv:fI v aj ar)(aD:aj.length+bg.length<=1000000000){n c:Nat}(aX:n=bg.length)(aA:c=2\/c=3)
  (ag:∀ab aQ bx,al ab (Γ++b2 aQ bx)->fI aQ (aj++bg) bx->aa aQ ab):ah (gD 1 1 v (aF q 0 n c) H) aa:=by
 have dd:al H ((Γ++[(q,⟨bj bg,w⟩)])++b2 v ar):=hO.fP (by simp_all[List.Perm.append_left]);refine te dd hv (bg:=bg) (.inr ⟨q,0,c,by rw[aX],aA,.inr ⟨Γ.length,⟨bj bg,w⟩,by simp,?_⟩⟩) aD ?_
 ·simp_all[List.take_of_length_le]
 grind[al.sub]
theorem DK{l4:List Value}(hO:al H ((Γ++b2 v ar)++b2 x l4))(hv:fI v aj ar)(ao:fI x bg l4)(aD:aj.length+bg.length<=1000000000)
  (ag:∀ab aQ bx,al ab (Γ++b2 aQ bx)->fI aQ (aj++bg) bx->aa aQ ab):ah (gD 1 1 v x H) aa:=by
 have dd:al H ((Γ++b2 x l4)++b2 v ar):=hO.fP (by simp_all[List.Perm.append_left,List.perm_append_comm]);refine te dd hv ao.lR.jv aD ?_
 grind[al.sub]
theorem cl.nn{y:Nat×az}{B:List (Nat×az)}(h:cl B v aj):cl (Γ++(y::B)) v aj:=by
 have:=h.jv (Γ:=Γ++[y])
 simp_all
theorem DL{n:Int}(aR:0<=n)(ad:n<18446744073709551616):j5 .u64 (int n) H=some (bS .u64 n.toNat,H):=by obtain⟨m,rfl⟩:∃m:Nat,n=m:=⟨n.toNat,by omega⟩;show some (Value.int .u64 (iY .u64 (m:Int)),H)=_;rw[vz rfl,Int.toNat_natCast,Nat.mod_eq_of_lt (show m<gu .u64 from(show m<18446744073709551616 by omega))]
theorem Gf{k:IntKind}{n:Int}(aR:0<=n):Value.int k n=bS k n.toNat:=by grind
theorem xW{p o n:Nat}{b:az}(hO:al H Γ)(i:Nat)(aq:Γ[i]?=some (p,b))(bM:0<n)(aX:o+n<=b.cells.length):me n 1 (ak p o) none none none H=some (aF p o n 3):=by
 have hg:=hO.at i aq (.inr (by grind))
 simp_all[me,gX,Nat.ble_eq_true_of_le,ow,qE,r2,rj]
theorem alN(aj:List Int):u3 (bj aj)=some (aj.map fun n=>UInt8.ofNat n.toNat):=by
 induction aj with
 | nil=>rfl
 | cons x r bd=>simp_all[u3]
def alO(aj:List Int):Value:=.string ⟨(aj.map fun n=>UInt8.ofNat n.toNat).toArray⟩
theorem cl.bZ(hO:al H Γ)(h:cl Γ v aj):v8 v H=some (alO aj,H):=by
 have he:=h.pE hO;rcases h with⟨rfl,rfl⟩|⟨p,o,c,rfl,_⟩
 ·rfl
 ·unfold v8;simp only;split
  ·rename_i aR;have aR:=Nat.eq_of_beq_eq_true aR;have:aj=[]:=List.length_eq_zero_iff.1 aR;subst this;rfl
  ·rename_i aR;unfold sU at he;simp only[Nat.mul_one]at he;rw[if_neg aR]at he;rw[he];simp only[alN];rfl
theorem Kb{t e:TypeId}{c:Bool}{a:Option Addr}{n k:Nat}(ht:P.underlying t=some (.slice e)):(ay P .eql t c).f (.slice a n k) bB=some (.bool a.isNone):=by show(if u2 P t c (.slice a n k) bB then(nZ P 100 t (.slice a n k) bB).map Value.bool else none)=_;have ad:u2 P t c (.slice a n k) bB=true:=rfl;rw[if_pos ad];show(nZ P (99+1) t (.slice a n k) bB).map Value.bool=_;unfold nZ;rw[ht];cases a<;>rfl
theorem alP{o n c:Nat}{p:Nat}{h:Int}(aR:0<=h)(ad:h<=n)(aA:c=2\/c=3):∃cC,(cC=2\/cC=3)/\hP 1 (aF p o n c) none (some (int h)) none=some (aF p o h.toNat cC):=by
 obtain⟨m,rfl⟩:∃m:Nat,h=m:=⟨h.toNat,by omega⟩;have an:ow n (some (int (m:Int)))=some m:=by
  show(match kf 0 (m:Int)with|true=>(match Nat.ble (m:Int).toNat n with|true=>some (m:Int).toNat|false=>none)|false=>none)=_
  simp_all[ly,Nat.ble_eq_true_of_le]
 rcases aA with rfl|rfl
 ·simp_all[hP,qE,r2,rj]
 ·refine⟨cond (Nat.beq m n) 3 2,by grind,?_⟩
  simp_all[hP,qE,r2,rj]
end
end Go.Ab
namespace Go.Ab
open Go
local instance:hy:=⟨fun _=>none,0⟩
section
variable[ep]{P:Program}{H:au}{Γ:List (Nat×az)}
abbrev iA(l:Nat)(r:hk)(L:b0):b0:=⟨(l,r)::L.l⟩
theorem Bl{L:b0}(h:@al L H Γ):H.dy=0:=@al.c6 L H Γ h
theorem DM{L:b0}(h:@al L H Γ):H.t.rC H.next:=@al.h9 L H Γ h
theorem Kc{L:b0}(h:@al L H Γ):(Γ.map (·.1)).Nodup:=@al.sm L H Γ h
theorem DN{L:b0}(h:@al L H Γ):∀x∈Γ,x.1<H.next:=@al.lt L H Γ h
theorem Kd{L:b0}(h:@al L H Γ):∀x∈Γ,(x.2.wr=true\/x.2.cells≠[])->H.get x.1=some x.2:=@al.get L H Γ h
theorem zj{L:b0}(h:@al L H Γ):H.dO=L.l:=@al.dO L H Γ h
theorem xX{L:b0}(h:@al L H Γ):∀x∈L.l,x.1<H.next:=@al.DB L H Γ h
theorem alQ{L:b0}(h:@al L H Γ)(T:List Value)(bz:List Tmp)(cX body:Code):@al (iA (Nat.succ H.next) ⟨T,bz,cX,body,.ready⟩ L) (laid T bz cX body H) Γ:=by
 have Pe:(H.t.set H.next none).rC (H.next+1):=fun m aV=>by
  by_cases he:m=H.next
  ·grind[Tr.zb,DM]
  ·exact Tr.za _ _ _ _ ((DM h) m (by omega))
 have alR:((H.t.set H.next none).set (Nat.succ H.next) none).rC (H.next+2):=fun m aV=>by
  by_cases he:m=Nat.succ H.next
  ·simp_all[Tr.zb]
  ·exact Tr.za _ _ _ _ (Pe m (by omega))
 have gr:=Bl h;have fZ:=Kc h;refine @al.mk (iA (Nat.succ H.next) ⟨T,bz,cX,body,.ready⟩ L) (laid T bz cX body H) Γ gr alR fZ (fun x ao=>?_) (fun x ao aM=>?_) ?_ (fun x ao=>?_)
 ·have:=(DN h) x ao;show x.1<H.next+2;omega
 ·have:=(DN h) x ao;show((H.t.set H.next none).set (Nat.succ H.next) none).get x.1=some x.2;rw[Tr.lL _ _ _ _ (by omega),Tr.lL _ _ _ _ (by omega)];exact(Kd h) x ao aM
 ·show(_,_)::H.dO=_;grind[zj]
 ·rcases List.mem_cons.1 ao with rfl|ao
  ·show H.next+1<H.next+2;omega
  ·have:=(xX h) x ao;show x.1<H.next+2;omega
theorem alS{L:b0}{l:Nat}{r:hk}(h:@al (iA l r L) H Γ):@al L ⟨H.t,H.next,H.dy,L.l⟩ Γ:=by have gr:=Bl h;have fZ:=DM h;have kj:=Kc h;have ld:=DN h;have lA:=Kd h;have f6:=xX h;exact @al.mk L ⟨H.t,H.next,H.dy,L.l⟩ Γ gr fZ kj ld lA rfl (fun x ao=>f6 x (List.mem_cons_of_mem _ ao))
theorem Xf{L cv:b0}(h:@al L H Γ)(aD:∀x∈cv.l,x.1<H.next):@al cv ⟨H.t,H.next,H.dy,cv.l⟩ Γ:=by have gr:=Bl h;have fZ:=DM h;have kj:=Kc h;have ld:=DN h;have lA:=Kd h;exact @al.mk cv ⟨H.t,H.next,H.dy,cv.l⟩ Γ gr fZ kj ld lA rfl aD
theorem Xg{L:b0}{l:Nat}{r:hk}{st:uY}(aV:(mX r||mX ⟨r.T,r.bz,r.cX,r.body,st⟩)=false)(h:@al (iA l r L) H Γ):∃cD,u9 l st H=some cD/\@al (iA l ⟨r.T,r.bz,r.cX,r.body,st⟩ L) cD Γ:=by
 refine⟨⟨H.t,H.next,H.dy,(iA l ⟨r.T,r.bz,r.cX,r.body,st⟩ L).l⟩,?_,Xf h fun x ao=>?_⟩
 ·unfold u9;have e:H.dO=(l,r)::L.l:=(zj h);rw[show Nat.ble H.dy l=true by rw[(Bl h)];rfl,e,qd,if_pos rfl];simp only;have:lJ ((l,r)::L.l) l ⟨r.T,r.bz,r.cX,r.body,st⟩=(l,⟨r.T,r.bz,r.cX,r.body,st⟩)::L.l:=by
   show cond (Nat.beq l l) _ _=_
   simp_all
  grind
 ·rcases List.mem_cons.1 ao with rfl|ao
  ·exact(xX h) (l,r) List.mem_cons_self
  ·exact(xX h) x (List.mem_cons_of_mem _ ao)
theorem Xh{L:b0}{l:Nat}{T:List Value}{bz:List Tmp}{cX body:Code}{aa:au->Prop}(h:@al (iA l ⟨T,bz,cX,body,.ready⟩ L) H Γ)(ag:∀cD,@al (iA l ⟨T,bz,cX,body,.busy⟩ L) cD Γ->aa cD):FZ l H aa:=by obtain⟨cD,ad,af⟩:=Xg (st:=.busy) rfl h;refine⟨cD,?_,ag cD af⟩;unfold AA;have e:H.dO=(l,(⟨T,bz,cX,body,.ready⟩:hk))::L.l:=(zj h);rw[e,qd,if_pos rfl];exact ad
theorem Xi{L:b0}{l:Nat}{r:hk}{e:mW}{aa:Value->au->Prop}(h:@al (iA l r L) H Γ)(ag:∀cD,@al (iA l ⟨r.T,r.bz,r.cX,r.body,CQ e⟩ L) cD Γ->aa (.bool (yM e)) cD)(aV:mX r=false:=by rfl):Dx l e H aa:=by obtain⟨cD,ad,af⟩:=Xg (st:=CQ e) (by rw[aV];cases e<;>rfl) h;exact⟨cD,ad,ag cD af⟩
theorem Xj{L:b0}{n l:Nat}{bz:List Tmp}{cX body:Code}{lS args T:List Value}{aa:Value->au->Prop}(h:@al (iA l ⟨T,bz,cX,body,.ready⟩ L) H Γ)(bk:T.length=n)
  (jB:xN (bits n (sj cX body)) (ml (bits n (sj cX body)) lS) T) (hlen:args.length=bz.length) (uj:bz.all (· < n)=true) (hv:JG P n bz cX body lS args l H aa):xJ P (.round l args H) aa:=by
 refine ak2 ?_ bk jB hlen (fun p bM=>?_) hv
 ·have e:H.dO=(l,(⟨T,bz,cX,body,.ready⟩:hk))::L.l:=(zj h)
  simp_all[qd]
 simp_all
theorem Xk:∀(l:List (Nat×hk)) (i:Nat),(∀x∈l,x.1<i)->eH l i=none
 | [],_,_=>rfl
 | x::r,i,h=>by have:=h x List.mem_cons_self;rw[qd,if_neg (by omega)];exact Xk r i fun y ba=>h y (List.mem_cons_of_mem _ ba)
def Xl:uY->mW
 | .over e=>e
 | _=>.normal
theorem Xm{L:b0}{n:Nat}{bz:List Tmp}{cX body:Code}{lS args:List Value}{g:Value}{f:FuncId}{N:au->Prop}{bY:Nat->au->Prop}{c9:au->Prop}(h:@al L H Γ)(hg:tR g [u6 (Nat.succ H.next)]=some (.fn f args))
  (aA:∀T,T.length=n->xN (bits n (sj cX body)) (ml (bits n (sj cX body)) lS) T->∀fN,@al (iA (Nat.succ H.next) ⟨T,bz,cX,body,.ready⟩ L) fN Γ->wCall P f args fN fun _ bw=>∃(st:uY) (hz:List (Nat×az)),(st≠.busy/\st≠.over .normal)/\@al (iA (Nat.succ H.next) ⟨T,bz,cX,body,st⟩ L) bw hz/\∀cD,@al L cD hz->Wi N bY c9 (Xl st) cD):FY P n bz cX body lS g H N bY c9:=by
 intro T bk jB;obtain⟨m,cP,v,bw,U,st,hz,fT,bE,ag⟩:=aA T bk jB _ (alQ h T bz cX body);refine⟨m,⟨Xl st,T,⟨bw.t,bw.next,bw.dy,L.l⟩⟩,?_,rfl,ag _ (alS bE)⟩;unfold u7;rw[hg];simp only;rw[U];simp only;unfold MM;have e:bw.dO=(Nat.succ H.next,(⟨T,bz,cX,body,st⟩:hk))::L.l:=(zj bE);have eT:eH L.l (Nat.succ H.next)=none:=Xk _ _ fun x ao=>by have:=(xX h) x ao;omega
 rw[e];simp only;rw[Nat.beq_refl,show Nat.ble bw.dy (Nat.succ H.next)=true by rw[(Bl bE)];rfl];simp only[Bool.and_self,eT];cases st with
 | ready=>rfl
 | busy=>simp_all
 | over alT=>
  cases alT with
  | normal=>simp_all
  | ret=>rfl
  | exit i=>rfl
theorem Xn{l:Nat}{args:List Value}{aa:Value->au->Prop}(h:xJ P (.round l args H) aa):xK P (tR (u6 l) args) H aa:=h
section
variable{k:IntKind}{t:TypeId}{c:Bool}{a b:Int}{p o n size:Nat}{i:Int}{q:Prop}[Decidable q]{x y:Value}{A B:Prop}
theorem alU(ad:-9223372036854775808<=a+b:=by omega)(af:a+b<=9223372036854775807:=by omega):(ay P .add t c).f (.int .i64 a) (.int .i64 b)=some (.int .i64 (a+b)):=mn ad af
theorem alV(ad:-9223372036854775808<=a-b:=by omega)(af:a-b<=9223372036854775807:=by omega):(ay P .sub t c).f (.int .i64 a) (.int .i64 b)=some (.int .i64 (a-b)):=nL ad af
theorem alW{c:Nat}(aR:0<=i:=by omega)(ad:i<n:=by omega):iu size (aF p o n c) (.int k i)=some (ak p (o+i.toNat*size)):=ky aR ad
theorem alX(aR:0<=i:=by omega)(ad:i<n:=by omega):eQ n size (ak p o) (.int k i)=some (ak p (o+i.toNat*size)):=fA aR ad
theorem alY(h:q:=by first|assumption|omega):aH (.bool (decide q)) x y=some x:=ju h
theorem alZ(h:¬q:=by first|assumption|omega):aH (.bool (decide q)) x y=some y:=kV h
theorem uo(hA:A)(h:q:=by first|assumption|omega):aN (.bool (decide q)) A B:=nK h hA
theorem vC(ck:B)(h:¬q:=by first|assumption|omega):aN (.bool (decide q)) A B:=tb h ck
end
theorem cI[b0]{L:List (Nat×az)}{p o:Nat}{b:az}{v:Value}{aa:Value->au->Prop}(h:al H (Γ++L))(k:Nat)(aq:L[k]?=some (p,b))(hv:b.cells[o]?=some v)(ag:aa v H):ah (aB (ak p o) H) aa:=aZ h (Γ.length+k) (aC aq) hv ag
section
variable{q:Prop}[Decidable q]{A B:Prop}
theorem aY{p q o:Nat}{aa:Value->Prop}(h:aa (ak p (q+o))):ae (r3 (ak p q)) fun b=>ae (cB o b) aa:=⟨_,rfl,_,rfl,h⟩
theorem bH{r:Option Value}{v:Value}{aa:Value->Prop}(ag:aa v)(h:r=some v:=by first|exact alU|exact alV|exact WE|exact ed|exact fz|exact jh|exact gj|exact sl|exact OZ|exact uk|exact jt|exact mI|exact qi|exact alY|exact alZ|exact alW|exact alX):ae r aa:=⟨v,h,ag⟩
theorem sr{r:R}{v:Value}{ab:au}{aa:Value->au->Prop}(ag:aa v ab)(h:r=some (v,ab):=by first|exact xO|exact vy|exact zd):ah r aa:=⟨v,ab,h,ag⟩
theorem lg{b:Bool}(hA:A)(h:b=true:=by rfl):aN (.bool b) A B:=fU h hA
theorem wL{b:Bool}(ck:B)(h:b=false:=by rfl):aN (.bool b) A B:=eX h ck
theorem Bm{b:Bool}(hA:A)(h:b=true:=by rfl):cond b A B:=kW h hA
theorem DO{b:Bool}(ck:B)(h:b=false:=by rfl):cond b A B:=alj h ck
end
end
end Go.Ab
namespace Go.Ab
open Go
local instance:hy:=⟨fun _=>none,0⟩
section
variable[ep]{P:Program}{H:au}{Γ:List (Nat×az)}{aa:Value->au->Prop}
theorem al0{L:b0}(h:@al L H Γ):@al (iA H.next (jU []) L) (r4 H) Γ:=by
 have Pe:(H.t.set H.next none).rC (H.next+1):=fun m aV=>by
  by_cases he:m=H.next
  ·grind[Tr.zb,DM]
  ·exact Tr.za _ _ _ _ ((DM h) m (by omega))
 have gr:=Bl h;have fZ:=Kc h;refine @al.mk (iA H.next (jU []) L) (r4 H) Γ gr Pe fZ (fun x ao=>?_) (fun x ao aM=>?_) ?_ (fun x ao=>?_)
 ·have:=(DN h) x ao;show x.1<H.next+1;omega
 ·have:=(DN h) x ao;show(H.t.set H.next none).get x.1=some x.2;rw[Tr.lL _ _ _ _ (by omega)];exact(Kd h) x ao aM
 ·show(_,_)::H.dO=_;grind[zj]
 ·rcases List.mem_cons.1 ao with rfl|ao
  ·show H.next<H.next+1;omega
  ·have:=(xX h) x ao;show x.1<H.next+1;omega
abbrev vD(id:Nat):Value:=.map (some id)
theorem al1{L:b0}(h:@al L H Γ)(ag:∀id ab,(∀x∈L.l,x.1<id)->@al (iA id (jU []) L) ab Γ->aa (vD id) ab):OH H aa:=ag _ _ (xX h) (al0 h)
theorem Xo{L:b0}(h:@al L H Γ){id:Nat}{T:List Value}(aD:eH L.l id=some (jU T)):CL (vD id) H=some T:=by show(match eH H.dO id with|some r=>(match mX r with|true=>some r.T|false=>none)|none=>none)=_;rw[zj h,aD];rfl
theorem Ke{L:b0}(h:@al L H Γ){id:Nat}{T:List Value}{t:TypeId}{ok bZ:Bool}{e:TypeId}{key z:Value}{x:Option Value}(aD:eH L.l id=some (jU T))(aV:As P t=some (bZ,e))(eu:h3 P e=some z)(hf:wb bZ key T=some x)
  (ag:aa (CM ok (x.getD z) x.isSome) H):ah (wc P t ok (vD id) key H) aa:=by
 refine⟨CM ok (x.getD z) x.isSome,H,?_,ag⟩;unfold wc;simp only[aV,eu,Xo h aD,hf]
 grind
theorem al2{L:b0}{id:Nat}{T:List Value}(h:@al (iA id (jU T) L) H Γ){t:TypeId}{bZ:Bool}{e:TypeId}{key v:Value}(aV:As P t=some (bZ,e))(hf:wb bZ key T=some none)
  (ag:∀ab,@al (iA id (jU (T++[key,v])) L) ab Γ->aa undef ab):ah (tQ P t (vD id) key v H) aa:=by
 have aD:eH (iA id (jU T) L).l id=some (jU T):=by show eH ((id,jU T)::L.l) id=_;simp_all[qd]
 refine⟨undef,⟨H.t,H.next,H.dy,(iA id (jU (T++[key,v])) L).l⟩,?_,ag _ (Xf h fun x ao=>?_)⟩
 ·unfold tQ;simp only[aV,Xo h aD,hf];rw[show Nat.ble H.dy id=true by rw[Bl h];rfl];simp only;have e:H.dO=(id,jU T)::L.l:=zj h;rw[e];have:lJ ((id,jU T)::L.l) id (jU (hT T [key,v]))=(id,jU (T++[key,v]))::L.l:=by
   show cond (Nat.beq id id) _ _=_
   simp_all[iF]
  grind
 ·rcases List.mem_cons.1 ao with rfl|ao
  ·exact(xX h) (id,jU T) List.mem_cons_self
  ·exact(xX h) x (List.mem_cons_of_mem _ ao)
end
end Go.Ab
namespace Go.Ab
abbrev VH:Type:=Value->au->Prop
abbrev LN:Type:=List Value->au->Prop
abbrev LX:Type:=Nat->List Value->au->Prop
def LpI[ep](P:Program)(C:Nat)(p:Code)(h:Nat)(F:List Value->au->LN->LX->LN->Prop):Prop:=∀(I:LX) (bY:LX) (c9:LN),(∀k l H,I k l H->F l H (fun l H=>∃fh,fh<k/\I fh l H) bY c9)->∀k l H,I k l H->fw P true C p h l H bY c9
theorem LpI.mk[ep]{P:Program}{C:Nat}{p:Code}{h:Nat}{F:List Value->au->LN->LX->LN->Prop}(hf:fa p (fa p 0 h) h=fa p 0 h:=by kernel_rfl)(he:∀l H N bY c9,qh P true C p (fa p 0 h) h (ml (bits C (fa p 0 h)) l) H (Wh C p h N bY c9)=F l H N bY c9:=by intros;kernel_rfl):LpI P C p h F:=
 fun I bY c9 aw k l H ja=>ak4 hf I (fun k l H h=>(he l H _ bY c9).mpr (aw k l H h)) k l H ja
end Go.Ab
namespace Go.Ab
abbrev aK(x:Value)(k:Nat)(aa:Value->Prop):Prop:=ae (r3 x) fun b=>ae (cB k b) aa
abbrev LF:Type:=List Value->au->LN->LX->LN->Prop
noncomputable instance:CoeFun (List Value) fun _=>Nat->Value:=⟨b3⟩
instance:CoeFun Mz fun _=>List (Nat×Value)->Option Value:=⟨Mz.f⟩
instance:CoeFun E0 fun _=>Value->Value->Option Value:=⟨E0.f⟩
instance:CoeFun MC fun _=>List (Nat×Value)->au->R:=⟨MC.f⟩
instance:CoeFun Ai fun _=>Value->au->R:=⟨Ai.f⟩
instance:CoeFun An fun _=>List Value->au->R:=⟨An.f⟩
instance:CoeFun MD fun _=>Value->Value->au->R:=⟨MD.f⟩
abbrev V0:Type:=au->VH->Prop
abbrev W0[ep](P:Program)(f:Nat)(F:V0):Prop:=∀ {H aa},F H aa->wCall P f [] H aa
theorem Wm0[ep]{P:Program}{f:Nat}{F:V0}(h:∀H aa,ep.lf f [] H=none/\y7 P f [] H aa=F H aa:=by intros;exact⟨rfl,by kernel_rfl⟩)(an:ep.oG f=none:=by rfl):W0 P f F:=fun {H aa} ad=>DA (h H aa).1 (Eq.mpr (h H aa).2 ad) an
abbrev V1:Type:=Value->au->VH->Prop
abbrev W1[ep](P:Program)(f:Nat)(F:V1):Prop:=∀ {a H aa},F a H aa->wCall P f [a] H aa
theorem Wm1[ep]{P:Program}{f:Nat}{F:V1}(h:∀a H aa,ep.lf f [a] H=none/\y7 P f [a] H aa=F a H aa:=by intros;exact⟨rfl,by kernel_rfl⟩)(an:ep.oG f=none:=by rfl):W1 P f F:=fun {a H aa} ad=>DA (h a H aa).1 (Eq.mpr (h a H aa).2 ad) an
abbrev V2:Type:=Value->Value->au->VH->Prop
abbrev W2[ep](P:Program)(f:Nat)(F:V2):Prop:=∀ {a b H aa},F a b H aa->wCall P f [a,b] H aa
theorem Wm2[ep]{P:Program}{f:Nat}{F:V2}(h:∀a b H aa,ep.lf f [a,b] H=none/\y7 P f [a,b] H aa=F a b H aa:=by intros;exact⟨rfl,by kernel_rfl⟩)(an:ep.oG f=none:=by rfl):W2 P f F:=fun {a b H aa} ad=>DA (h a b H aa).1 (Eq.mpr (h a b H aa).2 ad) an
abbrev V3:Type:=Value->Value->Value->au->VH->Prop
abbrev W3[ep](P:Program)(f:Nat)(F:V3):Prop:=∀ {a b c H aa},F a b c H aa->wCall P f [a,b,c] H aa
theorem Wm3[ep]{P:Program}{f:Nat}{F:V3}(h:∀a b c H aa,ep.lf f [a,b,c] H=none/\y7 P f [a,b,c] H aa=F a b c H aa:=by intros;exact⟨rfl,by kernel_rfl⟩)(an:ep.oG f=none:=by rfl):W3 P f F:=fun {a b c H aa} ad=>DA (h a b c H aa).1 (Eq.mpr (h a b c H aa).2 ad) an
abbrev V4:Type:=Value->Value->Value->Value->au->VH->Prop
abbrev W4[ep](P:Program)(f:Nat)(F:V4):Prop:=∀ {a b c d H aa},F a b c d H aa->wCall P f [a,b,c,d] H aa
theorem Wm4[ep]{P:Program}{f:Nat}{F:V4}(h:∀a b c d H aa,ep.lf f [a,b,c,d] H=none/\y7 P f [a,b,c,d] H aa=F a b c d H aa:=by intros;exact⟨rfl,by kernel_rfl⟩)(an:ep.oG f=none:=by rfl):W4 P f F:=fun {a b c d H aa} ad=>DA (h a b c d H aa).1 (Eq.mpr (h a b c d H aa).2 ad) an
abbrev V5:Type:=Value->Value->Value->Value->Value->au->VH->Prop
abbrev W5[ep](P:Program)(f:Nat)(F:V5):Prop:=∀ {a b c d e H aa},F a b c d e H aa->wCall P f [a,b,c,d,e] H aa
theorem Wm5[ep]{P:Program}{f:Nat}{F:V5}(h:∀a b c d e H aa,ep.lf f [a,b,c,d,e] H=none/\y7 P f [a,b,c,d,e] H aa=F a b c d e H aa:=by intros;exact⟨rfl,by kernel_rfl⟩)(an:ep.oG f=none:=by rfl):W5 P f F:=fun {a b c d e H aa} ad=>DA (h a b c d e H aa).1 (Eq.mpr (h a b c d e H aa).2 ad) an
end Go.Ab
