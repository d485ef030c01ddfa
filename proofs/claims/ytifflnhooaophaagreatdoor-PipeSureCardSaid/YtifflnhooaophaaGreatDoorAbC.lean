/- texts of the nF, e5 behind the l0 -/
import Derived.KernelRfl
import Derived.Deep.Slices
import Derived.Carry
import Derived.Test.YtifflnhooaophaaGreatDoorAbB
set_option linter.unusedVariables false
set_option linter.unusedSimpArgs false
set_option linter.unusedSectionVars false
open List Nat
namespace Go.Ab
open Go
local instance:hD:=⟨fun _=>none,0⟩
section
variable{P:Program}{di cP:hz}
abbrev rH(di cP:hz):Prop:=∀t o,di t=some o->cP t=some o
theorem akA(h:rH di cP){x:Option vW}{H:ar}{r:Value×ar}(U:tM di x H=some r):tM cP x H=some r:=by grind[Ft,tM]
theorem Jc(h:rH di cP){op:Op}{T:List Value}{H:ar}{r:Value×ar}(U:(iK P op).f di T H=some r):(iK P op).f cP T H=some r:=by
 unfold iK at U⊢;split;rename_i eL;rw[eL]at U;simp only at U;unfold xe at U⊢
 grind[akA]
 simp_all
theorem Jd(h:rH di cP)(all:List Oper):∀(l:List Oper) (T:List Value) (H:ar) (o:dY),jd P di all l T H=some o->jd P cP all l T H=some o
 | [],T,H,o,U=>U
 | x::l,T,H,o,U=>by have U:gw P di x ((ia all x.guard).f T) T H (jd P di all l)=some o:=U;show gw P cP x ((ia all x.guard).f T) T H (jd P cP all l)=some o;unfold gw at U⊢;split;rename_i aM;rw[aM]at U;simp only at U;split at U;rename_i v br aw;rw[Jc h aw];exact Jd h all l _ _ _ U;cases U;rename_i aM;rw[aM]at U;exact Jd h all l _ _ _ U
theorem VB(h:rH di cP){x:Oper}{p:mN}{T:List Value}{H:ar}{r:Value×ar}(U:s4 P di x p T H=some r):s4 P cP x p T H=some r:=by
 unfold s4 at U⊢;split at U;cases h1:(iK P x.op).f di T (lx H)with
 | none=>rw[h1]at U;cases U
 | some y=>grind[Jc]
 grind[Jc]
theorem Je(h:rH di cP)(all:List Oper):∀(l:List (Oper×mN)) (T:List Value) (H:ar) (dq:List lQ) (o:dY),p3 P di all l T H dq=some o->p3 P cP all l T H dq=some o
 | [],T,H,dq,o,U=>U
 |(x,p)::l,T,H,dq,o,U=>by have U:rz P di x p ((ia all x.guard).f T) T H dq (p3 P di all l)=some o:=U;show rz P cP x p ((ia all x.guard).f T) T H dq (p3 P cP all l)=some o;unfold rz at U⊢;split;rename_i aM;rw[aM]at U;simp only at U;split at U;rename_i v br aw;have:s4 P cP x p T H=some (v,br):=VB h aw;rw[this];simp only;split at U;exact Je h all l _ _ _ _ U;cases U;cases U;rename_i aM;rw[aM]at U;exact Je h all l _ _ _ _ U
theorem akB(h:rH di cP){all:List Oper}{T:List Value}{H:ar}{o:dY}(U:n5 P di all T H=some o):n5 P cP all T H=some o:=by grind[n5,Je]
theorem akC(h:rH di cP){g:Value}{bJ:List Tmp}{cS body:Code}{T:List Value}{H:ar}{o:dY}(U:uY di g bJ cS body T H=some o):uY cP g bJ cS body T H=some o:=by grind[uY]
theorem wq(h:rH di cP)(c6:Bool):∀(c:Code) (T:List Value) (H:ar) (o:dY),(dn P c6 c).f di T H=some o->(dn P c6 c).f cP T H=some o:=by
 intro c;induction c with
 | skip=>intro T H o U;exact U
 | region id bf d=>
  intro T H o U;cases d with
  | true=>exact akB h (all:=bf.toList) U
  | false=>exact Jd h _ _ _ _ _ U
 | seq x y cm vl=>
  intro T H o U;have U:mO ((dn P c6 x).f di T H) (fun T H=>(dn P c6 y).f di T H)=some o:=U;show mO ((dn P c6 x).f cP T H) (fun T H=>(dn P c6 y).f cP T H)=some o;obtain⟨bZ,h1,h2⟩:=so U;rw[cm _ _ _ h1];obtain⟨e,fw,br⟩:=bZ;cases e with
  | normal=>
   rcases h2 with⟨_,h2⟩|⟨h2,_⟩
   exact vl _ _ _ h2
   simp_all
  | exit id=>rcases h2 with⟨h2,_⟩|⟨_,rfl⟩<;>first|cases h2|rfl
  | ret=>rcases h2 with⟨h2,_⟩|⟨_,rfl⟩<;>first|cases h2|rfl
 | cond c x y cm vl=>
  intro T H o U;have U:oQ di ((dT c).g T) (dn P c6 x) (dn P c6 y) T H=some o:=U;show oQ cP ((dT c).g T) (dn P c6 x) (dn P c6 y) T H=some o;unfold oQ at U⊢
  grind
 | block id x cm=>grind[dn,NV]
 | loop x _=>intro T H o U;exact h (.loop c6 x T H) o U
 | rangeFunc g bJ cS body _ _=>
  intro T H o U;cases c6 with
  | false=>cases U
  | true=>exact akC h (g:=(Cv g).g T) (bJ:=bJ.toList) (cS:=cS) (body:=body) U
 | exit id=>intro T H o U;exact U
 | label l=>intro T H o U;exact U
 | ret=>intro T H o U;exact U
 | _=>intros;rename_i U;cases U
theorem akD{bZ dr:Option dY}{ep hl:List Value->ar->Option dY}{o:dY}(h1:∀o,bZ=some o->dr=some o)(h2:∀T H o,ep T H=some o->hl T H=some o)(U:E4 bZ ep=some o):E4 dr hl=some o:=by obtain⟨x,b7,ca,g3⟩:=Vh U;rw[h1 _ b7];obtain⟨e,T,H⟩:=x;cases ca;exact h2 _ _ _ g3
theorem Od(h:rH di cP):rH (step P di) (step P cP):=by
 intro t o U;cases t with
 | loop c6 c T H=>
  have U:mO ((dn P c6 c).f di T H) (fun T H=>di (.loop c6 c T H))=some o:=U;show mO ((dn P c6 c).f cP T H) (fun T H=>cP (.loop c6 c T H))=some o;obtain⟨bZ,h1,h2⟩:=so U;rw[wq h c6 _ _ _ _ h1];obtain⟨e,fw,br⟩:=bZ;cases e with
  | normal=>
   rcases h2 with⟨_,h2⟩|⟨h2,_⟩
   exact h _ _ h2
   simp_all
  | exit id=>rcases h2 with⟨h2,_⟩|⟨_,rfl⟩<;>first|cases h2|rfl
  | ret=>rcases h2 with⟨h2,_⟩|⟨_,rfl⟩<;>first|cases h2|rfl
 | call f args H=>
  have U:(tP P f).f di args H=some o:=U;show(tP P f).f cP args H=some o;unfold tP at U⊢;split at U;rename_i fn hf;split at U;rename_i c aD;simp only[];simp only at U;unfold u0 at U⊢
  grind[wq]
  omega;omega
 | round l args H=>
  have U:vY P di l args H=some o:=U;show vY P cP l args H=some o;unfold vY at U⊢;split at U;rename_i r aE;split at U;rename_i aR;refine akD (fun _=>wq h false _ _ _ _) (fun fw br o ag=>?_) U;split at ag;rename_i cB an;unfold E5 at ag⊢
  grind[wq]
  omega;omega;omega
theorem akE{f:FuncId}{c:Code}{args:List Value}{H:ar}{o:dY}(h:rH di cP)(U:rG P f c di args H=some o):rG P f c cP args H=some o:=by
 unfold rG at U⊢;split at U
 ·rename_i fn _;cases lg:Nat.ble (fG args) (fn.params.size+fn.nfree)with
  | false=>simp_all
  | true=>
  rw[lg]at U;show u0 P fn.results.toList _=some o;have U:u0 P fn.results.toList _=some o:=U;unfold u0 at U⊢
  grind[wq]
 omega
theorem akF[dX](h:rH di cP):rH (Dc P di) (Dc P cP):=by
 intro t o U;cases t with
 | loop c6 c T H=>exact Od h (.loop c6 c T H) o U
 | round l args H=>exact Od h (.round l args H) o U
 | call f args H=>
  have U:(match dX.kx f args H with|some v=>some ⟨.ret,[v],H⟩|none=>match dX.oi f with|some c=>rG P f c di args H|none=>step P di (.call f args H))=some o:=U;show(match dX.kx f args H with|some v=>some ⟨.ret,[v],H⟩|none=>match dX.oi f with|some c=>rG P f c cP args H|none=>step P cP (.call f args H))=some o
  grind[akE,Od]
theorem akG[dX](n:Nat):rH (eJ P n) (eJ P (n+1)):=by
 induction n with
 | zero=>intro t o h;cases h
 | succ n a7=>exact akF a7
theorem wt[dX]{n m:Nat}(h:n<=m):rH (eJ P n) (eJ P m):=by
 induction h with
 | refl=>grind
 | step _ a7=>grind[akG]
end
end Go.Ab
namespace Go.Ab
open Go
noncomputable section
abbrev eR:=Nat->Value
def put(ρ:eR)(d:Option Tmp)(v:Value):eR:=match d with
 | some d=>fun i=>cond (Nat.beq i d) v (ρ i)
 | none=>ρ
def eH(x:Operand)(ρ:eR):Value:=match x with
 | .tmp t=>ρ t
 | .const v=>v
 | .global g=>.pointer (some ⟨g,0,none⟩)
 | .func f=>.func (.func f) #[] #[]
def vb(l:List Operand)(ρ:eR):List Value:=List.rec (motive:=fun _=>List Value) [] (fun o _ a7=>eH o ρ::a7) l
def Jf(l:List (Nat×Operand))(ρ:eR):List (Nat×Value):=List.rec (motive:=fun _=>List (Nat×Value)) [] (fun p _ a7=>(p.1,eH p.2 ρ)::a7) l
def Jg(o:Option Operand)(ρ:eR):Option Value:=match o with
 | none=>none
 | some o=>some (eH o ρ)
def qS(ρ:eR)(l:List Nat):List Value:=List.rec (motive:=fun _=>List Value) [] (fun i _ a7=>ρ i::a7) l
def FF(l:List Value)(kk:List Nat):Nat->Nat->Value:=
 List.rec (motive:=fun _=>Nat->Nat->Value) (fun _ _=>undef) (fun k _ a7 p i=>cond (Nat.beq i k) (b4 l p) (a7 (Nat.succ p) i)) kk
def l7(kk:List Nat)(l:List Value):eR:=fun i=>FF l kk 0 i
def Bd(x:Operand):Nat:=match x with|.tmp t=>Nat.shiftLeft 1 t|_=>0
def FG(l:List Operand):Nat:=List.rec (motive:=fun _=>Nat) 0 (fun x _ a7=>Nat.lor (Bd x) a7) l
def FH(m d:Nat):Nat:=cond (hR m d) (Nat.xor m (Nat.shiftLeft 1 d)) m
def Jh(m:Nat)(d:Option Tmp):Nat:=match d with|some d=>FH m d|none=>m
def Oe(all:List Oper)(g:Option (Nat×Bool)):Option (Option Nat×Bool):=match g with
 | none=>none
 | some (j,cN)=>some ((nY all j).bind (·.dst),cN)
def FI(all:List Oper)(g:Option (Nat×Bool)):Nat:=match Oe all g with
 | some (some d,_)=>Nat.shiftLeft 1 d
 | _=>0
def De(all l:List Oper)(N:Nat):Nat:=List.rec (motive:=fun _=>Nat) N (fun o _ a7=>Nat.lor (Jh a7 o.dst) (Nat.lor (FG o.op.operands.toList) (FI all o.guard))) l
def eV(c:Code):Nat->Nat->Nat:=
 Code.rec (motive:=fun _=>Nat->Nat->Nat)
  (fun N _=>N)
  (fun _ bf _ N _=>De bf.toList bf.toList N)
  (fun _ _ a b N X=>a (b N X) X)
  (fun c _ _ a b N X=>Nat.lor (Bd c) (Nat.lor (a N X) (b N X)))
  (fun _ _ a N X=>a N (Nat.lor N X))
  (fun _ a _ X=>a 0 X)
  (fun g _ _ _ a b N X=>Nat.lor (Bd g) (Nat.lor (Nat.lor N X) (a (b 0 0) 0)))
  (fun _ _ X=>X)
  (fun _ _ _ _=>0)
  (fun _ N _=>N)
  (fun _ _ _=>0)
  (fun _ X=>X)
  (fun _ _ _=>0) c
def VC(m n:Nat):List Nat:=Nat.rec (motive:=fun _=>List Nat->List Nat) (fun hC=>hC) (fun k a7 hC=>a7 (cond (hR m k) (k::hC) hC)) n []
def bits(n m:Nat):List Nat:=VC m n
def akH(id:Nat)(c:Code):Nat:=
 Code.rec (motive:=fun _=>Nat) 0 (fun _ _ _=>0) (fun _ _ a b=>a+b) (fun _ _ _ a b=>a+b) (fun _ _ a=>a) (fun _ a=>a) (fun _ _ _ _ _ _=>0) (fun i=>cond (Nat.beq i id) 1 0) (fun _ _=>0) (fun _=>0) (fun _=>0) 0 (fun _=>0) c
def akI(l:List Oper):Bool:=not (jM (fun o=>match o.guard with|none=>true|some _=>false) l)
def VD(c:Code):Nat:=
 Code.rec (motive:=fun _=>Nat) 0 (fun _ bf _=>fG bf.toList) (fun _ _ a b=>a+b) (fun _ _ _ a b=>a+b+4) (fun _ _ a=>a) (fun _ _=>9) (fun _ _ _ _ _ _=>9) (fun _=>0) (fun _ _=>0) (fun _=>0) (fun _=>0) 0 (fun _=>0) c
def pF(c:Code):Nat:=
 Code.rec (motive:=fun _=>Nat) 1 (fun _ bf _=>cond (akI bf.toList) 2 1) (fun _ b Ji FJ=>cond (Nat.ble 2 Ji&&Nat.ble 6 (VD b)) FJ (Ji*FJ)) (fun _ _ _ a b=>a+b) (fun id b a=>a+akH id b) (fun _ _=>0) (fun _ _ _ _ _ _=>1) (fun _=>0) (fun _ _=>0) (fun _=>1) (fun _=>0) 0 (fun _=>0) c
def VE(a b:Code):Bool:=Nat.ble 2 (pF a)&&Nat.ble 6 (VD b)
def af(r:R)(ab:Value->ar->Prop):Prop:=∃v aa,r=some (v,aa)/\ab v aa
def ad(r:Option Value)(ab:Value->Prop):Prop:=∃v,r=some v/\ab v
def aG(v:Value)(A B:Prop):Prop:=(v=.bool true->A)/\(v=.bool false->B)/\∃b,v=.bool b
def ar.push(H:ar)(ao:List Value):ar:=⟨H.t.set H.next (some ⟨ao,true⟩),Nat.succ H.next,H.dB,H.dI⟩
def cp(ao:List Value)(H:ar)(ab:Value->ar->Prop):Prop:=ab (.pointer (some ⟨H.next,0,none⟩)) (H.push ao)
def e3(A:(List Value->ar->Prop)->Prop)(B:List Value->ar->Prop):Prop:=∃J,A J/\∀l H,J l H->B l H
def aY(c a b:Value):Option Value:=match c with|.bool t=>(match t with|true=>some a|false=>some b)|_=>none
def ee(i:Nat)(x:Value):Option Value:=match x with|.tuple vs=>nY vs.toList i|_=>none
def ea(s:Nat->Bool)(k8:List Nat):Prop:=jM s k8=true
def pG(a b:List Nat):Prop:=nJ a b=true
def l8(a:List Nat)(fc aq:Nat):Prop:=yO a fc aq=true
def hd(k:IntKind)(x:Value)(H:ar):R:=match x with|.int _ n=>some (.int k (iJ k n),H)|_=>none
def bP(x:Value)(H:ar):R:=match x with|.slice _ n _=>some (.int .i64 n,H)|_=>none
def Be(x:Value)(H:ar):R:=match x with|.string s=>some (.int .i64 (Int.ofNat (fG s.data.toList)),H)|_=>none
def cQ(P:Program)(t:TypeId):List Value:=match hX P t with|some z=>cZ z|none=>[]
section
variable[dX](P:Program)
def xF(t:At)(ab:Value->ar->Prop):Prop:=∃n cJ v aa,eJ P n t=some ⟨cJ,[v],aa⟩/\ab v aa
def az(f:FuncId)(args:List Value)(H:ar)(ab:Value->ar->Prop):Prop:=xF P (.call f args H) ab
def xG(x:Option vW)(H:ar)(ab:Value->ar->Prop):Prop:=match x with
 | some t=>(match t with
  | .fn f args=>az P f args H ab
  | .ry l args=>xF P (.round l args H) ab)
 | none=>False
def Of(H:ar)(ab:Value->ar->Prop):Prop:=ab (.map (some H.next)) (sa H)
def FK(op:Op)(ρ:eR)(H:ar)(ab:Value->ar->Prop):Prop:=match op with
 | .move x=>ab (eH x ρ) H
 | .assign x=>ab (eH x ρ) H
 | .pick c a b=>ad (aY (eH c ρ) (eH a ρ) (eH b ρ)) fun v=>ab v H
 | .alloc t=>match hX P t with
  | some z=>cp (cZ z) H ab
  | none=>False
 | .box _ x=>cp (cZ (eH x ρ)) H ab
 | .build t hy=>ad ((c9 P t).f (Jf hy.toList ρ)) fun v=>ab v H
 | .buildSlice t len hy=>af ((eg P t len).f (Jf hy.toList ρ) H) ab
 | .load t a=>af ((nI P t).f (eH a ρ) H) ab
 | .store t a x=>match gD P t with
  | some n=>af (bm n (eH a ρ) (eH x ρ) H) ab
  | none=>False
 | .nilCheck x=>ad (rv (eH x ρ)) fun v=>ab v H
 | .binOp op t x y _=>ad ((au P op t (uS x||uS y)).f (eH x ρ) (eH y ρ)) fun v=>ab v H
 | .unOp op _ x=>ad (hQ op (eH x ρ)) fun v=>ab v H
 | .convert s d x=>af ((Ak P s d).f (eH x ρ) H) ab
 | .makeInterface t x=>match P.underlying t with
  | some (.interface _)=>False
  | some _=>ab (.iface t (eH x ρ)) H
  | none=>False
 | .makeFunc fn first cap=>match fn with
  | .func f=>ab (.func (.func f) (vb first.toList ρ).toArray (vb cap.toList ρ).toArray) H
  | _=>False
 | .makeSlice t l c=>af ((qH P t).f (eH l ρ) (eH c ρ) H) ab
 | .slice t x fc aq gK=>ad ((HO P t).f (eH x ρ) (Jg fc ρ) (Jg aq ρ) (Jg gK ρ) H) fun v=>ab v H
 | .fieldAddr s x f=>ad ((yL P s f).f (eH x ρ)) fun v=>ab v H
 | .field t x f=>ad ((HT P t f).f (eH x ρ)) fun v=>ab v H
 | .indexAddr t x i=>ad ((HQ P t).f (eH x ρ) (eH i ρ)) fun v=>ab v H
 | .index t x i=>ad ((HS P t).f (eH x ρ) (eH i ρ)) fun v=>ab v H
 | .typeAssert x _ a ok=>ad ((Ap P a ok).f (eH x ρ)) fun v=>ab v H
 | .extract x i=>ad (ee i (eH x ρ)) fun v=>ab v H
 | .call c=>match c.callee with
  | .builtin b=>af ((tH P b c.argTypes.toList).f (vb c.args.toList ρ) H) ab
  | .value f=>xG P (tL (eH f ρ) (vb c.args.toList ρ)) H ab
  | .invoke r name=>xG P (Mm P name (eH r ρ) (vb c.args.toList ρ)) H ab
 | .makeMap _ r=>match r with
  | none=>Of H ab
  | some _=>False
 | .lookup t x i ok=>af (vV P t ok (eH x ρ) (eH i ρ) H) ab
 | .mapUpdate t m k x=>af (tK P t (eH m ρ) (eH k ρ) (eH x ρ) H) ab
 | .insert t m k x=>af (tK P t (eH m ρ) (eH k ρ) (eH x ρ) H) ab
 | _=>False
def Df(op:Op)(ρ:eR)(H:ar)(ab:Value->ar->Prop):Prop:=match jM (uV P) op.operands.toList with
 | true=>FK P op ρ H ab
 | false=>False
inductive ky where
 | lj|jZ|undef|any
def xH(l:List (Nat×ky))(d:Nat):ky:=List.rec (motive:=fun _=>ky) .any (fun x _ a7=>cond (Nat.beq x.1 d) x.2 a7) l
def xI(l:List (Nat×ky))(d:Option Tmp)(k:ky):List (Nat×ky):=match d with|some d=>(d,k)::l|none=>l
def wu(dM:List (Nat×ky))(x:Operand):ky:=match x with
 | .tmp t=>xH dM t
 | .const v=>match v with
  | .bool b=>(match b with|true=>.lj|false=>.jZ)
  | _=>.any
 | _=>.any
def zc(dM:List (Nat×ky))(op:Op):ky:=match op with
 | .pick c a b=>match wu dM c with
  | .lj=>wu dM a
  | .jZ=>wu dM b
  | _=>.any
 | .move x=>wu dM x
 | .assign x=>wu dM x
 | _=>.any
def Jj(n:Nat)(d:Option Tmp):Bool:=match d with|some d=>Nat.blt d n|none=>true
def Dg(n:Nat)(all:List Oper)(o:Oper)(FL skip:List (Nat×ky)->Prop)(dM:List (Nat×ky))(ρ:eR):Prop:=match Jj n o.dst with
 | false=>False
 | true=>match Oe all o.guard with
  | none=>FL dM
  | some (ds,cN)=>match ds with
   | none=>skip dM
   | some d=>match xH dM d with
    | .lj=>cond cN (FL dM) (skip dM)
    | .jZ=>cond cN (skip dM) (FL dM)
    | .undef=>skip dM
    | .any=>cond cN (aG (ρ d) (FL ((d,.lj)::dM)) (skip ((d,.jZ)::dM))) (aG (ρ d) (skip ((d,.lj)::dM)) (FL ((d,.jZ)::dM)))
def Jk(n:Nat)(all l:List Oper)(ab:eR->ar->Prop):List (Nat×ky)->eR->ar->Prop:=
 List.rec (motive:=fun _=>List (Nat×ky)->eR->ar->Prop) (fun _ ρ H=>ab ρ H)
  (fun o _ a7 dM ρ H=>Dg n all o (fun ek=>Df P o.op ρ H fun v aa=>a7 (xI ek o.dst (zc ek o.op)) (put ρ o.dst v) aa) (fun ek=>a7 (xI ek o.dst .undef) (put ρ o.dst undef) H) dM ρ) l
def Dh(o:Oper)(p:mN)(ρ:eR)(H aa:ar):lQ:=⟨p.cm,p.eF,match p.eF with|1=>b9 (vb o.op.operands.toList ρ)|4=>b9 (vb o.op.operands.toList ρ)|_=>[],H.next,aa.next,match p.eF with|3=>dV H aa|_=>fun _=>false⟩
def Bf(k j:lQ)(X:Prop):Prop:=match k.eF with
 | 0=>X
 | 1=>match j.eF with
  | 3=>ea j.oP k.k8/\X
  | 4=>pG k.k8 j.k8/\X
  | _=>X
 | 2=>match j.eF with
  | 0=>X
  | 1=>l8 j.k8 k.fc k.aq/\X
  | 2=>X
  | 4=>l8 j.k8 k.fc k.aq/\X
  | _=>False
 | 3=>match j.eF with
  | 0=>X
  | 1=>ea k.oP j.k8/\X
  | 2=>X
  | _=>False
 | 4=>match j.eF with
  | 0=>X
  | 1=>pG k.k8 j.k8/\l8 j.k8 k.fc k.aq/\X
  | 2=>X
  | _=>False
 | _=>False
def Jl(k6:Nat)(j:lQ)(dq:List lQ)(X:Prop):Prop:=match j.eF with
 | 0=>X
 | _=>List.rec (motive:=fun _=>Prop) X (fun k _ a7=>cond (hR k6 k.cm) a7 (Bf k j a7)) dq
def akJ(br H:ar):Prop:=Nat.beq br.next H.next=true
def Jm(p:mN)(op:Op)(ρ:eR)(H:ar)(ab:Value->ar->Prop):Prop:=match p.lx with
 | true=>Df P op ρ (lx H) fun v br=>akJ br H/\ab v H
 | false=>Df P op ρ H ab
def Jn(n:Nat)(all:List Oper)(l:List (Oper×mN))(ab:eR->ar->Prop):List (Nat×ky)->eR->ar->List lQ->Prop:=
 List.rec (motive:=fun _=>List (Nat×ky)->eR->ar->List lQ->Prop) (fun _ ρ H _=>ab ρ H)
  (fun o _ a7 dM ρ H dq=>Dg n all o.1 (fun ek=>Jm P o.2 o.1.op ρ H fun v aa=>Jl o.2.k6 (Dh o.1 o.2 ρ H aa) dq (a7 (xI ek o.1.dst (zc ek o.1.op)) (put ρ o.1.dst v) aa (Dh o.1 o.2 ρ H aa::dq)))
   (fun ek=>a7 (xI ek o.1.dst .undef) (put ρ o.1.dst undef) H dq) dM ρ) l
def Og(n:Nat)(bf:List Oper)(d:Bool)(ρ:eR)(H:ar)(ab:eR->ar->Prop):Prop:=match d with
 | true=>match Mo bf with
  | true=>Jn P n bf (sd P bf) ab [] ρ H []
  | false=>False
 | false=>Jk P n bf bf ab [] ρ H
def xJ(kk:List Nat)(ρ:eR)(T:List Value):Prop:=∀i,i∈kk->b4 T i=ρ i
def Oh(bL:Nat->List Value->ar->Prop)(cy:List Value->ar->Prop):mJ->List Value->ar->Prop
 | .normal=>fun _ _=>False
 | .exit id=>bL id
 | .ret=>cy
def eI(c6:Bool)(n:Nat)(b:Code)(X:Nat)(lF:List Value)(H:ar)(bL:Nat->List Value->ar->Prop)(cy:List Value->ar->Prop):Prop:=
 ∀T,T.length=n->xJ (bits n (eV b 0 X)) (l7 (bits n (eV b 0 X)) lF) T->
  ∃m o,eJ P m (.loop c6 b T H)=some o/\o.T.length=n/\∃l,xJ (bits n X) (l7 (bits n X) l) o.T/\Oh bL cy o.cJ l o.H
def FM(J:eR->ar->Prop)(Q:mJ->eR->ar->Prop):mJ->eR->ar->Prop
 | .normal=>J
 | .exit id=>Q (.exit id)
 | .ret=>Q .ret
def VF(id:Nat)(Q:mJ->eR->ar->Prop):mJ->eR->ar->Prop
 | .normal=>Q .normal
 | .exit i=>fun ρ H=>cond (Nat.beq i id) (Q .normal ρ H) (Q (.exit i) ρ H)
 | .ret=>Q .ret
def VG(n:Nat)(b:Code)(X:Nat)(N:List Value->ar->Prop)(bL:Nat->List Value->ar->Prop)(cy:List Value->ar->Prop):mJ->eR->ar->Prop
 | .normal=>fun ρ H=>N (qS ρ (bits n (eV b 0 X))) H
 | .exit id=>fun ρ H=>bL id (qS ρ (bits n X)) H
 | .ret=>fun ρ H=>cy (qS ρ (bits n X)) H
def VI(N:ar->Prop)(bL:Nat->ar->Prop)(cy:ar->Prop):mJ->ar->Prop
 | .normal=>N
 | .exit id=>bL id
 | .ret=>cy
def sr(cS body:Code):Nat:=eV cS (eV body 0 0) 0
def FN(n:Nat)(bJ:List Tmp)(cS body:Code)(lF:List Value)(g:Value)(H:ar)(N:ar->Prop)(bL:Nat->ar->Prop)(cy:ar->Prop):Prop:=
 ∀T,T.length=n->xJ (bits n (sr cS body)) (l7 (bits n (sr cS body)) lF) T->
  ∃m o,uY (eJ P m) g bJ cS body T H=some o/\o.T=T/\VI N bL cy o.cJ o.H
def Oi(g:Operand)(ρ:eR):Value:=match g with|.tmp t=>ρ t|_=>undef
def akK(c:Code):List (List Tmp×Code×Code):=
 Code.rec (motive:=fun _=>List (List Tmp×Code×Code)) [] (fun _ _ _=>[]) (fun _ _ a b=>hP a b) (fun _ _ _ a b=>hP a b) (fun _ _ a=>a) (fun _ a=>a) (fun _ bJ cS body a b=>(bJ.toList,cS,body)::hP a b) (fun _=>[]) (fun _ a=>a) (fun _=>[]) (fun _=>[]) [] (fun _=>[]) c
def akL(c:Code):List Code:=
 Code.rec (motive:=fun _=>List Code) [] (fun _ _ _=>[]) (fun _ _ a b=>hP a b) (fun _ _ _ a b=>hP a b) (fun _ _ a=>a) (fun b a=>b::a) (fun _ _ _ _ a b=>hP a b) (fun _=>[]) (fun _ a=>a) (fun _=>[]) (fun _=>[]) [] (fun _=>[]) c
def VJ(P:Program)(f:FuncId):Code:=match P.funcs.toList[f]? with
 | some fn=>(match fn.body with|some c=>c|none=>.skip)
 | none=>.skip
def gT(P:Program)(f:FuncId)(i:Nat):Code:=match nY (akL (VJ P f)) i with
 | some b=>b
 | none=>.skip
def VK(P:Program)(f:FuncId)(i:Nat):List Tmp×Code×Code:=match nY (akK (VJ P f)) i with
 | some b=>b
 | none=>([],.skip,.skip)
def qe(c6:Bool)(n:Nat)(c:Code):Nat->Nat->eR->ar->(mJ->eR->ar->Prop)->Prop:=
 Code.rec (motive:=fun _=>Nat->Nat->eR->ar->(mJ->eR->ar->Prop)->Prop)
  (fun _ _ ρ H Q=>Q .normal ρ H)
  (fun _ bf d _ _ ρ H Q=>Og P n bf.toList d ρ H (Q .normal))
  (fun a b vo nq N X ρ H Q=>match VE a b with
   | true=>e3 (fun J=>vo (eV b N X) X ρ H (FM (fun ρ H=>J (qS ρ (bits n (eV b N X))) H) Q)) (fun l H=>nq N X (l7 (bits n (eV b N X)) l) H Q)
   | false=>vo (eV b N X) X ρ H (FM (fun ρ H=>nq N X ρ H Q) Q))
  (fun c _ _ vo nq N X ρ H Q=>aG (eH c ρ) (vo N X ρ H Q) (nq N X ρ H Q))
  (fun id _ nq N X ρ H Q=>nq N (Nat.lor N X) ρ H (VF id Q))
  (fun b _ _ X ρ H Q=>match Nat.beq (eV b (eV b 0 X) X) (eV b 0 X)with
   | true=>eI P c6 n b X (qS ρ (bits n (eV b 0 X))) H (fun id l H=>Q (.exit id) (l7 (bits n X) l) H) (fun l H=>Q .ret (l7 (bits n X) l) H)
   | false=>False)
  (fun g bJ cS body _ _ _ _ ρ H Q=>match c6 with
   | true=>FN P n bJ.toList cS body (qS ρ (bits n (sr cS body))) (Oi g ρ) H (Q .normal ρ) (fun id=>Q (.exit id) ρ) (Q .ret ρ)
   | false=>False)
  (fun id _ _ ρ H Q=>Q (.exit id) ρ H)
  (fun _ _ _ _ _ _ _=>False)
  (fun _ _ _ ρ H Q=>Q .normal ρ H)
  (fun _ _ _ _ _ _=>False)
  (fun _ _ ρ H Q=>Q .ret ρ H)
  (fun _ _ _ _ _ _=>False) c
def Jo(bJ:List Tmp)(args:List Value):Nat->eR->eR:=List.rec (motive:=fun _=>Nat->eR->eR) (fun _ ρ=>ρ) (fun p _ a7 k ρ=>a7 (Nat.succ k) (put ρ (some p) (b4 args k))) bJ
def FO(l:Nat)(H:ar)(ab:ar->Prop):Prop:=∃cB,Az l H=some cB/\ab cB
def Di(l:Nat)(e:mJ)(H:ar)(ab:Value->ar->Prop):Prop:=∃cB,uZ l (CC e) H=some cB/\ab (.bool (yR e)) cB
def akM(l:Nat)(B:eR->ar->Prop):mJ->eR->ar->Prop
 | .normal=>fun ρ H=>FO l H (B ρ)
 | .exit _=>fun _ _=>False
 | .ret=>fun _ _=>False
def Jp(n:Nat)(bJ:List Tmp)(cS body:Code)(lF args:List Value)(l:Nat)(H:ar)(ab:Value->ar->Prop):Prop:=
 qe P false n cS (eV body 0 0) 0 (Jo bJ args 0 (l7 (bits n (sr cS body)) lF)) H (akM l fun ρ H=>qe P false n body 0 0 ρ H fun e _ H=>Di l e H ab)
def Jq(r:ResultVar)(ρ:eR)(H:ar)(ab:Value->Prop):Prop:=match r with
 | .tmp t=>ab (ρ t)
 | .cell a t=>af ((nI P t).f (ρ a) H) fun v _=>ab v
def Oj(dq:List ResultVar)(ρ:eR)(H:ar):(List Value->Prop)->Prop:=
 List.rec (motive:=fun _=>(List Value->Prop)->Prop) (fun k=>k []) (fun r _ a7 k=>Jq P r ρ H fun v=>a7 fun vs=>k (v::vs)) dq
def Dj(dq:List ResultVar)(ρ:eR)(H:ar)(ab:Value->ar->Prop):Prop:=match dq with
 | [r]=>Jq P r ρ H fun v=>ab v H
 | dq=>Oj P dq ρ H fun vs=>ab (.tuple vs.toArray) H
def Jr(r:ResultVar):Nat:=match r with|.tmp t=>Nat.shiftLeft 1 t|.cell a _=>Nat.shiftLeft 1 a
def wx(dq:List ResultVar):Nat:=List.rec (motive:=fun _=>Nat) 0 (fun r _ a7=>Nat.lor (Jr r) a7) dq
def VL(dq:List ResultVar)(ab:Value->ar->Prop):mJ->eR->ar->Prop
 | .normal=>fun ρ H=>Dj P dq ρ H ab
 | .exit _=>fun _ _=>False
 | .ret=>fun ρ H=>Dj P dq ρ H ab
def zd(f:FuncId)(args:List Value)(H:ar)(ab:Value->ar->Prop):Prop:=match P.funcs.toList[f]? with
 | some fn=>match fn.body with
  | some c=>match Nat.ble (fG args) fn.ntmps with
   | true=>qe P true fn.ntmps c (wx fn.results.toList) (wx fn.results.toList) (fun i=>b4 args i) H (VL P fn.results.toList ab)
   | false=>False
  | none=>False
 | none=>False
end
end
end Go.Ab
namespace Go.Ab
open Go
local instance:hD:=⟨fun _=>none,0⟩
theorem VM(a b i:Nat):hR (Nat.lor a b) i=(hR a i||hR b i):=by rw[vi,vi,vi,show Nat.lor a b=a|||b from rfl,testBit_or]
theorem Dk(t i:Nat):hR (Nat.shiftLeft 1 t) i=decide (t=i):=by
 rw[vi,show Nat.shiftLeft 1 t=1<<<t from rfl,testBit_shiftLeft]
 grind[testBit_one_eq_true_iff_self_eq_zero]
theorem VN(m d i:Nat):hR (FH m d) i=(hR m i&&decide (d≠i)):=by
 unfold FH;cases an:hR m d with
 | true=>
  simp only[cond_true];rw[vi,show Nat.xor m (Nat.shiftLeft 1 d)=m ^^^ (1<<<d)from rfl,testBit_xor,<- vi,<- vi,show(1<<<d)=Nat.shiftLeft 1 d from rfl,Dk]
  grind
 | false=>grind
def iz(m:Nat)(ρ:eR)(T:List Value):Prop:=∀i,hR m i=true->b4 T i=ρ i
theorem iz.or{a b:Nat}{ρ:eR}{T:List Value}(h:iz (Nat.lor a b) ρ T):iz a ρ T/\iz b ρ T:=
 ⟨fun i aq=>h i (by grind[VM]),fun i aq=>h i (by rw[VM,aq,Bool.or_true])⟩
theorem Ok{T:List Value}{d i:Nat}{v:Value}(aO:d<T.length):b4 (gJ T d v) i=if d=i then v else b4 T i:=by
 rw[oS,oR,oR,getD_eq_getElem?_getD,getD_eq_getElem?_getD]
 grind
theorem FP{m n:Nat}{ρ:eR}{T:List Value}{d:Option Tmp}{v:Value}(aE:T.length=n)(aO:Jj n d=true)(h:iz (Jh m d) ρ T):iz m (put ρ d v) (hZ T d v):=by
 cases d with
 | none=>exact h
 | some d=>
  have aO:d<T.length:=by rw[aE];have:Nat.blt d n=true:=aO;simp_all
  intro i aq;show b4 (gJ T d v) i=cond (Nat.beq i d) v (ρ i);rw[Ok aO];by_cases he:d=i
  simp_all
  rw[if_neg he];have:Nat.beq i d=false:=by grind[eq_of_beq_eq_true]
  rw[this];refine h i ?_;show hR (FH m d) i=true
  simp_all[VN]
theorem Js{T:List Value}{d:Option Tmp}{v:Value}:(hZ T d v).length=T.length:=IJ
theorem akN(l:List Operand)(ρ:eR):vb l ρ=l.map (eH · ρ):=by
 induction l with
 | nil=>rfl
 | cons x r a7=>simp_all[vb]
theorem Ol{x:Operand}{ρ:eR}{T:List Value}(h:iz (Bd x) ρ T):(dT x).g T=eH x ρ:=by
 cases x with
 | tmp t=>exact h t (by show hR (Nat.shiftLeft 1 t) t=true;rw[Dk];simp)
 | _=>rfl
theorem Om{l:List Operand}{ρ:eR}{T:List Value}(h:iz (FG l) ρ T):∀x∈l,(dT x).g T=eH x ρ:=by
 induction l with
 | nil=>simp
 | cons x r a7=>
  have h:iz (Nat.lor (Bd x) (FG r)) ρ T:=h;intro y a8;rcases mem_cons.1 a8 with rfl|a8
  exact Ol h.or.1;exact a7 h.or.2 y a8
theorem FQ{l:List Operand}{ρ:eR}{T:List Value}(h:∀x∈l,(dT x).g T=eH x ρ):j8 l T=vb l ρ:=by simp_all[CV,akN]
theorem VO{l:List (Nat×Operand)}{ρ:eR}{T:List Value}(h:∀p∈l,(dT p.2).g T=eH p.2 ρ):tJ l T=Jf l ρ:=by
 induction l with
 | nil=>rfl
 | cons p r a7=>grind[tJ,Jf]
theorem On{o:Option Operand}{ρ:eR}{T:List Value}(h:∀x,o=some x->(dT x).g T=eH x ρ):Aq o T=Jg o ρ:=by
 cases o with
 | none=>rfl
 | some x=>show some _=some _;grind
section
variable{P:Program}[dX]
theorem wy{r:Option Value}{H:ar}{ab:Value->ar->Prop}(h:ad r fun v=>ab v H):∃v aa,fT H r=some (v,aa)/\ab v aa:=by obtain⟨v,rfl,ag⟩:=h;exact⟨v,H,rfl,ag⟩
theorem VP{ao:List Value}{H:ar}{ab:Value->ar->Prop}(h:cp ao H ab):∃v aa,xc ao H=some (v,aa)/\ab v aa:=⟨_,_,rfl,h⟩
def akO:Op->Bool
 | .makeMap _ _=>true
 | .lookup _ _ _ _=>true
 | .mapUpdate _ _ _ _=>true
 | .insert _ _ _ _=>true
 | _=>false
theorem VQ{op:Op}{ρ:eR}{T:List Value}{H:ar}{ab:Value->ar->Prop}(jo:∀x∈op.operands.toList,(dT x).g T=eH x ρ)(Ur:∀c,op=.call c->∃b,c.callee=.builtin b)(Fs:akO op=false)(h:FK P op ρ H ab):
  ∃v aa,(jc P op).f T H=some (v,aa)/\ab v aa:=by
 cases op<;>first|(cases Fs;done)|skip
 all_goals (simp only[FK]at h<;>simp only[jc]<;>first|exact h.elim|skip)
 case move x=>grind[Op.operands]
 case assign x=>grind[Op.operands]
 case pick c a b=>
  obtain⟨v,hv,ag⟩:=h
  grind[Op.operands,aY]
 case alloc t=>grind[VP]
 case box t x=>simp_all[Op.operands,VP]
 case build t hy=>rw[VO fun p bS=>jo p.2 (by grind[Op.operands])];exact wy h
 case buildSlice t len hy=>rw[VO fun p bS=>jo p.2 (by grind[Op.operands])];exact h
 case load t a=>rw[jo a (by simp[Op.operands])];exact h
 case store t a x=>
  cases dQ:gD P t with
  | some z=>rw[dQ]at h;simp only;rw[jo a (by simp[Op.operands]),jo x (by simp[Op.operands])];exact h
  | none=>simp_all
 case nilCheck x=>simp_all[Op.operands,wy]
 case binOp o t x y z=>simp_all[Op.operands,wy]
 case unOp o t x=>simp_all[Op.operands,wy]
 case convert s d x=>rw[jo x (by simp[Op.operands])];exact h
 case makeInterface t x=>grind[Op.operands]
 case makeFunc fn first cap=>
  cases fn<;>first|exact h.elim|skip
  grind[FQ,Op.operands]
 case makeSlice t l c=>rw[jo l (by simp[Op.operands]),jo c (by simp[Op.operands])];exact h
 case slice t x fc aq gK=>rw[jo x (by simp[Op.operands]),On fun y e=>jo y (by simp_all[Op.operands]),On fun y e=>jo y (by simp_all[Op.operands]),On fun y e=>jo y (by simp_all[Op.operands])];exact wy h
 case fieldAddr s x f=>simp_all[Op.operands,wy]
 case field t x f=>simp_all[Op.operands,wy]
 case indexAddr t x i=>simp_all[Op.operands,wy]
 case index t x i=>simp_all[Op.operands,wy]
 case typeAssert x t a ok=>simp_all[Op.operands,wy]
 case extract x i=>
  rw[jo x (by simp[Op.operands])];obtain⟨v,hv,ag⟩:=h;unfold ee at hv;split at hv
  ·rename_i vs he;rw[he];exact⟨v,H,by simp only[hv];rfl,ag⟩
  grind
 case call c=>obtain⟨b,an⟩:=Ur c rfl;rw[an]at h⊢;simp only at h⊢;rw[FQ fun z dQ=>jo z (by simp_all[Op.operands,Call.operands])];exact h
theorem akP{t:vW}{H:ar}{ab:Value->ar->Prop}(h:xG P (some t) H ab):∃m v aa,tM (eJ P m) (some t) H=some (v,aa)/\ab v aa:=by
 cases t with
 | fn f args=>
  obtain⟨n,cJ,v,aa,h1,h2⟩:=h
  grind[tM,HU]
 | ry l args=>
  obtain⟨n,cJ,v,aa,h1,h2⟩:=h
  grind[tM,HU]
theorem VR{x:Option vW}{H:ar}{ab:Value->ar->Prop}(h:xG P x H ab):∃m v aa,tM (eJ P m) x H=some (v,aa)/\ab v aa:=by
 cases x with
 | none=>exact h.elim
 | some t=>exact akP h
theorem Oo{op:Op}{ρ:eR}{T:List Value}{H:ar}{ab:Value->ar->Prop}(jo:∀x∈op.operands.toList,(dT x).g T=eH x ρ)(h:Df P op ρ H ab):
  ∃m v aa,(iK P op).f (eJ P m) T H=some (v,aa)/\ab v aa:=by
 unfold Df at h;split at h
 case h_2=>grind
 case h_1 eL=>
 unfold iK;rw[eL];simp only;unfold xe;split
 ·rename_i c;split
  ·rename_i b an;obtain⟨v,aa,h1,h2⟩:=VQ jo (fun b5 e=>by simp_all) rfl h;exact⟨0,v,aa,h1,h2⟩
  ·grind[FK,Op.operands,Call.operands,FQ,VR]
  grind[FK,Op.operands,Call.operands,FQ,VR]
 ·rename_i t r;cases r with
  | none=>exact⟨0,_,_,rfl,h⟩
  | some y=>exact h.elim
 ·rename_i t x i ok;obtain⟨v,aa,h1,h2⟩:=h;refine⟨0,v,aa,?_,h2⟩
  simp_all[Op.operands]
 ·rename_i t m k x;obtain⟨v,aa,h1,h2⟩:=h;refine⟨0,v,aa,?_,h2⟩
  simp_all[Op.operands]
 ·rename_i t m k x;obtain⟨v,aa,h1,h2⟩:=h;refine⟨0,v,aa,?_,h2⟩
  simp_all[Op.operands]
 ·rename_i da Dl Jt akQ aCZ;obtain⟨v,aa,h1,h2⟩:=VQ jo (fun c e=>absurd e (da c)) (by cases op<;>first|rfl|exact absurd rfl (Dl _ _)|exact absurd rfl (Jt _ _ _ _)|exact absurd rfl (akQ _ _ _ _)|grind) h;exact⟨0,v,aa,h1,h2⟩
def vp(T:List Value)(d:Nat):ky->Prop
 | .lj=>b4 T d=.bool true
 | .jZ=>b4 T d=.bool false
 | .undef=>b4 T d=Go.undef
 | .any=>True
def rI(dM:List (Nat×ky))(T:List Value):Prop:=∀d,vp T d (xH dM d)
theorem VS(x:Nat×ky)(l:List (Nat×ky))(d:Nat):xH (x::l) d=if x.1=d then x.2 else xH l d:=by
 show cond (Nat.beq x.1 d) x.2 (xH l d)=_
 simp_all
theorem rI.cons{dM:List (Nat×ky)}{T:List Value}(h:rI dM T){d:Nat}{k:ky}(ag:vp T d k):rI ((d,k)::dM) T:=fun i=>by
 rw[VS];split
 simp_all
 exact h i
theorem rI.put{dM:List (Nat×ky)}{T:List Value}{n:Nat}(aE:T.length=n){d:Option Tmp}(aO:Jj n d=true)(h:rI dM T){v:Value}{k:ky}(ag:∀dW x,b4 dW x=v->vp dW x k):rI (xI dM d k) (hZ T d v):=by
 cases d with
 | none=>exact h
 | some d=>
  have aO:d<T.length:=by rw[aE];have:Nat.blt d n=true:=aO;simp_all
  have oP:b4 (gJ T d v) d=v:=by simp_all[Ok]
  intro i;show vp (gJ T d v) i (xH ((d,k)::dM) i);rw[VS];split
  simp_all
  rename_i e;have e:¬d=i:=e;have aq:=h i;have bt:b4 (gJ T d v) i=b4 T i:=by simp_all[Ok]
  simp_all[vp]
theorem FR{dM:List (Nat×ky)}{T:List Value}(ag:rI dM T)(x:Operand):∀dW i,b4 dW i=(dT x).g T->vp dW i (wu dM x):=by
 intro dW i h;cases x with
 | tmp t=>
  have:=ag t;have h:b4 dW i=b4 T t:=h;show vp dW i (xH dM t)
  simp_all[vp]
 | const v=>
  cases v<;>first|trivial|skip
  rename_i b;cases b<;>exact h
 | _=>trivial
theorem Oq{dM:List (Nat×ky)}{T:List Value}{m:Nat}{op:Op}{H aa:ar}{v:Value}(ag:rI dM T)(h:(iK P op).f (eJ P m) T H=some (v,aa)):∀dW i,b4 dW i=v->vp dW i (zc dM op):=by
 intro dW i hv;cases op<;>first|trivial|skip
 case move x=>
  unfold iK at h;split at h
  ·cases h;exact FR ag x dW i hv
  ·cases h
 case assign x=>
  unfold iK at h;split at h
  ·cases h;exact FR ag x dW i hv
  ·cases h
 case pick c a b=>
  unfold iK at h;split at h
  case h_2=>cases h
  case h_1=>
  have h:(match (dT c).g T with|.bool t=>(match t with|true=>some ((dT a).g T,H)|false=>some ((dT b).g T,H))|_=>none)=some (v,aa):=h;have aD:=FR ag c [(dT c).g T] 0 rfl;show vp dW i (match wu dM c with|.lj=>wu dM a|.jZ=>wu dM b|_=>.any);cases hkc:wu dM c with
  | lj=>
   rw[hkc]at aD;rw[show(dT c).g T=.bool true from aD]at h
   grind[FR]
  | jZ=>
   rw[hkc]at aD;rw[show(dT c).g T=.bool false from aD]at h
   grind[FR]
  | undef=>trivial
  | any=>trivial
theorem VT{n:Nat}{all:List Oper}{o:Oper}{A B:List (Nat×ky)->Prop}{dM:List (Nat×ky)}{ρ:eR}{T:List Value}(ag:rI dM T)(jq:iz (FI all o.guard) ρ T)(h:Dg n all o A B dM ρ):
  Jj n o.dst=true/\(((ia all o.guard).f T=true/\∃ek,rI ek T/\A ek)\/((ia all o.guard).f T=false/\∃ek,rI ek T/\B ek)):=by
 unfold Dg at h;split at h
 case h_1=>grind
 case h_2 aO=>
 refine⟨aO,?_⟩;cases hg:o.guard with
 | none=>rw[hg]at h;exact .inl ⟨rfl,dM,ag,h⟩
 | some A1=>
  obtain⟨j,cN⟩:=A1;rw[hg]at h jq;have aw:Oe all (some (j,cN))=some ((nY all j).bind (·.dst),cN):=rfl;rw[aw]at h;simp only at h;have Ji:nY all j=all[j]?:=u1 _ _;cases an:(all[j]?).bind (·.dst)with
  | none=>grind[ia]
  | some d=>
   rw[Ji,an]at h;simp only at h;have aM:(ia all (some (j,cN))).f T=(match b4 T d with|.bool b=>b==cN|_=>false):=by grind[ia]
   have qP:=ag d;have AP:b4 T d=ρ d:=jq d (by grind[FI,Dk]);rw[aM];cases hgk:xH dM d with
   | lj=>
    rw[hgk]at h qP;rw[show b4 T d=.bool true from qP]
    grind
   | jZ=>
    rw[hgk]at h qP;rw[show b4 T d=.bool false from qP]
    grind
   | undef=>rw[hgk]at h qP;rw[show b4 T d=Go.undef from qP];exact .inr ⟨rfl,dM,ag,h⟩
   | any=>
    rw[hgk]at h;rw[AP];cases cN with
    | true=>
     obtain⟨h1,h2,t,ht⟩:=(show aG (ρ d) (A ((d,.lj)::dM)) (B ((d,.jZ)::dM))from h);rw[ht];cases t with
     | true=>exact .inl ⟨rfl,_,ag.cons (d:=d) (k:=.lj) (show b4 T d=.bool true from AP.trans ht),h1 ht⟩
     | false=>exact .inr ⟨rfl,_,ag.cons (d:=d) (k:=.jZ) (show b4 T d=.bool false from AP.trans ht),h2 ht⟩
    | false=>
     obtain⟨h1,h2,t,ht⟩:=(show aG (ρ d) (B ((d,.lj)::dM)) (A ((d,.jZ)::dM))from h);rw[ht];cases t with
     | true=>exact .inr ⟨rfl,_,ag.cons (d:=d) (k:=.lj) (show b4 T d=.bool true from AP.trans ht),h1 ht⟩
     | false=>exact .inl ⟨rfl,_,ag.cons (d:=d) (k:=.jZ) (show b4 T d=.bool false from AP.trans ht),h2 ht⟩
theorem Ot{n N:Nat}{all:List Oper}{ab:eR->ar->Prop}:∀(l:List Oper) (dM:List (Nat×ky)) (ρ:eR) (T:List Value) (H:ar),T.length=n->iz (De all l N) ρ T->rI dM T->Jk P n all l ab dM ρ H->
  ∃m o,jd P (eJ P m) all l T H=some o/\o.cJ=.normal/\o.T.length=n/\∃ kl,iz N kl o.T/\ab kl o.H
 | [],dM,ρ,T,H,aE,bp,ag,h=>⟨0,_,rfl,rfl,aE,ρ,bp,h⟩
 | o::l,dM,ρ,T,H,aE,bp,ag,h=>by
  have bp:iz (Nat.lor (Jh (De all l N) o.dst) (Nat.lor (FG o.op.operands.toList) (FI all o.guard))) ρ T:=bp;have h:Dg n all o (fun ek=>Df P o.op ρ H fun v aa=>Jk P n all l ab (xI ek o.dst (zc ek o.op)) (put ρ o.dst v) aa) (fun ek=>Jk P n all l ab (xI ek o.dst .undef) (put ρ o.dst undef) H) dM ρ:=h;obtain⟨c1,c2⟩:=bp.or;obtain⟨c2,a3⟩:=c2.or;obtain⟨aO,hg⟩:=VT ag a3 h;rcases hg with⟨aM,ek,fY,hA⟩|⟨aM,ek,fY,dP⟩
  obtain⟨fk,v,aa,h1,h2⟩:=Oo (Om c2) hA;obtain⟨dE,dr,b7,ca,g3,g4⟩:=Ot l _ _ _ _ (Js.trans aE) (FP aE aO c1) (fY.put aE aO (k:=zc ek o.op) (Oq fY h1)) h2;refine⟨max fk dE,dr,?_,ca,g3,g4⟩;show gw P (eJ P (max fk dE)) o ((ia all o.guard).f T) T H (jd P (eJ P (max fk dE)) all l)=some dr;rw[aM];unfold gw;simp only[Jc (wt (Nat.le_max_left fk dE)) h1];exact Jd (wt (Nat.le_max_right fk dE)) _ _ _ _ _ b7;obtain⟨dE,dr,b7,ca,g3,g4⟩:=Ot l _ _ _ _ (Js.trans aE) (FP aE aO c1) (fY.put aE aO (k:=.undef) fun _ _ e=>e) dP;refine⟨dE,dr,?_,ca,g3,g4⟩;show gw P (eJ P dE) o ((ia all o.guard).f T) T H (jd P (eJ P dE) all l)=some dr;rw[aM];exact b7
theorem akR{k j:lQ}{X:Prop}(h:Bf k j X):s3 k j=true/\X:=by
 unfold Bf at h;unfold s3;split at h
 simp_all
 rename_i e;rw[e];simp only;split at h;rename_i bt;rw[bt];exact h;rename_i bt;rw[bt];exact h
 simp_all
 rename_i e;rw[e];simp only;split at h
 simp_all
 rename_i bt;rw[bt];exact h
 simp_all
 rename_i bt;rw[bt];exact h
 simp_all
 rename_i e;rw[e];simp only;split at h
 simp_all
 rename_i bt;rw[bt];exact h
 simp_all
 simp_all
 rename_i e;rw[e];simp only;split at h
 simp_all
 rename_i bt;rw[bt];exact⟨by simp only[Bool.and_eq_true];exact⟨h.1,h.2.1⟩,h.2.2⟩
 simp_all
 simp_all
 simp_all
theorem akS{p:mN}{j:lQ}{dq:List lQ}{X:Prop}(h:Jl p.k6 j dq X):EZ p j dq=true/\X:=by
 unfold Jl at h;unfold EZ;split at h
 simp_all
 rename_i da;have key:jM (fun k=>hR p.k6 k.cm||s3 k j) dq=true/\X:=by
  clear da;rw[j0,all_eq_true];induction dq with
  | nil=>simp_all
  | cons k r a7=>
   have h:cond (hR p.k6 k.cm) (List.rec (motive:=fun _=>Prop) X (fun k _ a7=>cond (hR p.k6 k.cm) a7 (Bf k j a7)) r) (Bf k j (List.rec (motive:=fun _=>Prop) X (fun k _ a7=>cond (hR p.k6 k.cm) a7 (Bf k j a7)) r)):=h
   grind[akR,Bf]
 simp_all
theorem akT{p:mN}{o:Oper}{ρ:eR}{T:List Value}{H:ar}{ab:Value->ar->Prop}(jo:∀x∈o.op.operands.toList,(dT x).g T=eH x ρ)(h:Jm P p o.op ρ H ab):
  ∃m v aa,s4 P (eJ P m) o p T H=some (v,aa)/\ab v aa/\∀ek,rI ek T->∀dW i,b4 dW i=v->vp dW i (zc ek o.op):=by
 unfold Jm at h;unfold s4;cases an:p.lx with
 | true=>rw[an]at h;obtain⟨m,v,br,h1,h2,aB⟩:=Oo jo h;refine⟨m,v,H,?_,aB,fun ek fY=>Oq fY h1⟩;show E0 H ((iK P o.op).f (eJ P m) T (lx H))=_;rw[h1];unfold E0;simp only;rw[show Nat.beq br.next H.next=true from h2]
 | false=>
  rw[an]at h;obtain⟨m,v,aa,h1,h2⟩:=Oo jo h
  grind[Oq]
theorem Ou{n N:Nat}{all:List Oper}{ab:eR->ar->Prop}:∀(l:List (Oper×mN)) (dM:List (Nat×ky)) (ρ:eR) (T:List Value) (H:ar) (dq:List lQ),T.length=n->iz (De all (l.map (·.1)) N) ρ T->rI dM T->Jn P n all l ab dM ρ H dq->
  ∃m o,p3 P (eJ P m) all l T H dq=some o/\o.cJ=.normal/\o.T.length=n/\∃ kl,iz N kl o.T/\ab kl o.H
 | [],dM,ρ,T,H,dq,aE,bp,ag,h=>⟨0,_,rfl,rfl,aE,ρ,bp,h⟩
 |(o,p)::l,dM,ρ,T,H,dq,aE,bp,ag,h=>by
  have bp:iz (Nat.lor (Jh (De all (l.map (·.1)) N) o.dst) (Nat.lor (FG o.op.operands.toList) (FI all o.guard))) ρ T:=bp;have h:Dg n all o (fun ek=>Jm P p o.op ρ H fun v aa=>Jl p.k6 (Dh o p ρ H aa) dq (Jn P n all l ab (xI ek o.dst (zc ek o.op)) (put ρ o.dst v) aa (Dh o p ρ H aa::dq)))
   (fun ek=>Jn P n all l ab (xI ek o.dst .undef) (put ρ o.dst undef) H dq) dM ρ:=h
  obtain⟨c1,c2⟩:=bp.or;obtain⟨c2,a3⟩:=c2.or;obtain⟨aO,hg⟩:=VT ag a3 h;rcases hg with⟨aM,ek,fY,hA⟩|⟨aM,ek,fY,dP⟩
  obtain⟨fk,v,aa,h1,h2,vq⟩:=akT (Om c2) hA;obtain⟨gM,gN⟩:=akS h2;have FT:Dh o p ρ H aa=s0 o p T H aa:=by unfold Dh s0;rw[FQ (Om c2)];rfl
  rw[FT]at gM gN;obtain⟨dE,dr,b7,ca,g3,g4⟩:=Ou l _ _ _ _ _ (Js.trans aE) (FP aE aO c1) (fY.put aE aO (k:=zc ek o.op) (vq _ fY)) gN;refine⟨max fk dE,dr,?_,ca,g3,g4⟩;show rz P (eJ P (max fk dE)) o p ((ia all o.guard).f T) T H dq (p3 P (eJ P (max fk dE)) all l)=some dr;rw[aM];have hb:s4 P (eJ P (max fk dE)) o p T H=some (v,aa):=VB (wt (Nat.le_max_left fk dE)) h1;unfold rz;simp only[hb,gM];exact Je (wt (Nat.le_max_right fk dE)) _ _ _ _ _ _ b7;obtain⟨dE,dr,b7,ca,g3,g4⟩:=Ou l _ _ _ _ _ (Js.trans aE) (FP aE aO c1) (fY.put aE aO (k:=.undef) fun _ _ e=>e) dP;refine⟨dE,dr,?_,ca,g3,g4⟩;show rz P (eJ P dE) o p ((ia all o.guard).f T) T H dq (p3 P (eJ P dE) all l)=some dr;rw[aM];exact b7
theorem akU(l:List Oper):(sd P l).map (·.1)=l:=by
 unfold sd HX;rw[map_map];apply ext_getElem?
 grind[UR,US]
theorem akV{n N:Nat}{bf:List Oper}{d:Bool}{ρ:eR}{T:List Value}{H:ar}{ab:eR->ar->Prop}(aE:T.length=n)(bp:iz (De bf bf N) ρ T)(h:Og P n bf d ρ H ab):
  ∃m o,(match d with|true=>n5 P (eJ P m) bf T H|false=>jd P (eJ P m) bf bf T H)=some o/\o.cJ=.normal/\o.T.length=n/\∃ kl,iz N kl o.T/\ab kl o.H:=by
 unfold Og at h;have gA:rI [] T:=fun d=>trivial
 cases d with
 | false=>grind[Ot]
 | true=>grind[Ou,akU,n5]
theorem akW(ρ:eR)(l:List Nat):qS ρ l=l.map ρ:=by
 induction l with
 | nil=>rfl
 | cons i r a7=>simp_all[qS]
theorem Ov(l:List Value):∀(kk:List Nat) (p i:Nat),(∀k,kk[k]?=some i->(∀j,j<k->kk[j]?≠some i)->FF l kk p i=b4 l (p+k))/\(i∉kk->FF l kk p i=undef)
 | [],p,i=>⟨fun k h=>by simp at h,fun _=>rfl⟩
 | x::r,p,i=>by
  obtain⟨h1,h2⟩:=Ov l r (Nat.succ p) i;have e:FF l (x::r) p i=cond (Nat.beq i x) (b4 l p) (FF l r (Nat.succ p) i):=rfl;refine⟨fun k ag bh=>?_,fun aR=>?_⟩;rw[e];cases an:Nat.beq i x with
  | true=>grind[eq_of_beq_eq_true]
  | false=>
   have wj:=ne_of_beq_eq_false an;cases k with
   | zero=>simp_all
   | succ k=>grind
  grind[eq_of_beq_eq_true]
theorem akX{l:List Nat}{i:Nat}(h:i∈l):∃k:Nat,l[k]?=some i/\∀j,j<k->l[j]?≠some i:=by
 induction l with
 | nil=>cases h
 | cons x r a7=>
  by_cases al:x=i;exact⟨0,by simp[al],fun j bh=>by omega⟩;obtain⟨k,h1,h2⟩:=a7 (by grind);refine⟨k+1,by simp_all,fun j bh=>?_⟩
  grind
theorem VU(ρ:eR)(kk:List Nat)(i:Nat):l7 kk (qS ρ kk) i=if i∈kk then ρ i else undef:=by
 unfold l7;obtain⟨h1,h2⟩:=Ov (qS ρ kk) kk 0 i;split;rename_i h;obtain⟨k,a,b⟩:=akX h;rw[h1 k a b,akW,oR,getD_eq_getElem?_getD,List.getElem?_map,Nat.zero_add,a];rfl
 simp_all
theorem VV(m:Nat):∀(n:Nat) (hC:List Nat) (i:Nat),i∈(Nat.rec (motive:=fun _=>List Nat->List Nat) (fun hC=>hC) (fun k a7 hC=>a7 (cond (hR m k) (k::hC) hC)) n hC)↔i∈hC\/(i<n/\hR m i=true)
 | 0,hC,i=>by show i∈hC↔_;simp
 | n+1,hC,i=>by
  have:=VV m n (cond (hR m n) (n::hC) hC) i
  grind
theorem Ju{n m i:Nat}:i∈bits n m↔i<n/\hR m i=true:=by simp_all[bits,VC,VV]
theorem akY{n m:Nat}{ρ:eR}{T:List Value}(aE:T.length=n)(h:iz m ρ T):iz m (l7 (bits n m) (qS ρ (bits n m))) T:=fun i aq=>by
 rw[VU];split;exact h i aq
 simp_all[oR,Ju]
theorem Jv{n m:Nat}{ρ:eR}{T:List Value}(h:iz m ρ T):xJ (bits n m) (l7 (bits n m) (qS ρ (bits n m))) T:=fun i aq=>by rw[VU,if_pos aq];exact h i (Ju.1 aq).2
theorem Ow{n m:Nat}{l:List Value}{T:List Value}(aE:T.length=n)(h:xJ (bits n m) (l7 (bits n m) l) T):iz m (l7 (bits n m) l) T:=fun i aq=>by
 by_cases aR:i<n;exact h i (Ju.2 ⟨aR,aq⟩);have h1:b4 T i=undef:=by simp_all[oR]
 rw[h1];exact((Ov l (bits n m) 0 i).2 fun hm=>aR (Ju.1 hm).1).symm
def akZ(N X:Nat):mJ->Nat
 | .normal=>N
 | _=>X
theorem FU(c6:Bool)(n:Nat):∀(c:Code) (N X:Nat) (ρ:eR) (T:List Value) (H:ar) (Q:mJ->eR->ar->Prop),T.length=n->iz (eV c N X) ρ T->qe P c6 n c N X ρ H Q->
  ∃m o,(dn P c6 c).f (eJ P m) T H=some o/\o.T.length=n/\∃ kl,iz (akZ N X o.cJ) kl o.T/\Q o.cJ kl o.H:=by
 intro c;induction c with
 | skip=>intro N X ρ T H Q aE bp h;exact⟨0,_,rfl,aE,ρ,bp,h⟩
 | region id bf d=>intro N X ρ T H Q aE bp h;obtain⟨m,o,h1,h2,aB,kl,bk,cj⟩:=akV (d:=d) aE bp h;refine⟨m,o,?_,aB,kl,by rw[h2];exact bk,by simp_all⟩;cases d<;>exact h1
 | seq a b vo nq=>
  intro N X ρ T H Q aE bp h;have h:(match VE a b with
   | true=>e3 (fun J=>qe P c6 n a (eV b N X) X ρ H (FM (fun ρ H=>J (qS ρ (bits n (eV b N X))) H) Q)) (fun l H=>qe P c6 n b N X (l7 (bits n (eV b N X)) l) H Q)
   | false=>qe P c6 n a (eV b N X) X ρ H (FM (fun ρ H=>qe P c6 n b N X ρ H Q) Q)):=h
  have key:∃J:eR->ar->Prop,qe P c6 n a (eV b N X) X ρ H (FM J Q)/\∀ ze fw br,fw.length=n->iz (eV b N X) ze fw->J ze br->∃ Jw,iz (eV b N X) Jw fw/\qe P c6 n b N X Jw br Q:=by
   split at h
   ·obtain⟨J,hA,dP⟩:=h
    grind[akY]
   grind
  obtain⟨J,hA,dP⟩:=key;obtain⟨fk,bZ,h1,h2,ze,aB,bk⟩:=vo _ _ _ _ _ _ aE bp hA;obtain⟨e,fw,br⟩:=bZ;cases e with
  | normal=>obtain⟨Jw,cj,dh⟩:=dP ze fw br h2 aB bk;obtain⟨dE,dr,b7,ca,ak0,g3,g4⟩:=nq _ _ _ _ _ _ h2 cj dh;refine⟨max fk dE,dr,?_,ca,ak0,g3,g4⟩;show mO ((dn P c6 a).f (eJ P (max fk dE)) T H) (fun T H=>(dn P c6 b).f (eJ P (max fk dE)) T H)=some dr;rw[wq (wt (Nat.le_max_left fk dE)) c6 _ _ _ _ h1];exact wq (wt (Nat.le_max_right fk dE)) c6 _ _ _ _ b7
  | exit id=>
   refine⟨fk,⟨.exit id,fw,br⟩,?_,h2,ze,aB,bk⟩
   grind[mO,dn]
  | ret=>
   refine⟨fk,⟨.ret,fw,br⟩,?_,h2,ze,aB,bk⟩
   grind[mO,dn]
 | cond c a b vo nq=>
  intro N X ρ T H Q aE bp h;have bp:iz (Nat.lor (Bd c) (Nat.lor (eV a N X) (eV b N X))) ρ T:=bp;obtain⟨c1,c2⟩:=bp.or;obtain⟨c2,a3⟩:=c2.or;obtain⟨h1,h2,t,ht⟩:=(show aG (eH c ρ) (qe P c6 n a N X ρ H Q) (qe P c6 n b N X ρ H Q)from h);cases t with
  | true=>grind[oQ,dn,Ol]
  | false=>grind[oQ,dn,Ol]
 | block id b nq=>
  intro N X ρ T H Q aE bp h;obtain⟨m,o,b7,ca,kl,g3,g4⟩:=nq _ _ _ _ _ _ aE bp (show qe P c6 n b N (Nat.lor N X) ρ H (VF id Q)from h);obtain⟨e,fw,br⟩:=o;have Jx:∀dd,Ay id (some ⟨e,fw,br⟩)=some dd->(dn P c6 (.block id b)).f (eJ P m) T H=some dd:=fun dd bC=>by grind[dn]
  cases e with
  | normal=>exact⟨m,_,Jx _ rfl,ca,kl,g3,g4⟩
  | ret=>exact⟨m,_,Jx _ rfl,ca,kl,(show iz (Nat.lor N X) kl fw from g3).or.2,g4⟩
  | exit i=>
   have g3:iz (Nat.lor N X) kl fw:=g3;have g4:cond (Nat.beq i id) (Q .normal kl br) (Q (.exit i) kl br):=g4;cases an:Nat.beq i id with
   | true=>
    rw[an]at g4;refine⟨m,⟨.normal,fw,br⟩,Jx _ ?_,ca,kl,g3.or.1,g4⟩
    simp_all[Ay]
   | false=>
    rw[an]at g4;refine⟨m,⟨.exit i,fw,br⟩,Jx _ ?_,ca,kl,g3.or.2,g4⟩
    simp_all[Ay]
 | loop b _=>
  intro N X ρ T H Q aE bp h;have h:(match Nat.beq (eV b (eV b 0 X) X) (eV b 0 X)with
   | true=>eI P c6 n b X (qS ρ (bits n (eV b 0 X))) H (fun id l H=>Q (.exit id) (l7 (bits n X) l) H) (fun l H=>Q .ret (l7 (bits n X) l) H)
   | false=>False):=h
  split at h
  case h_2=>grind
  case h_1=>
  obtain⟨m,o,b7,ca,l,g4,g5⟩:=h T aE (Jv (m:=eV b 0 X) bp);have:=Ow ca g4;obtain⟨e,fw,br⟩:=o;cases e with
  | normal=>exact(show False from g5).elim
  | exit id=>exact⟨m,_,b7,ca,l7 (bits n X) l,this,g5⟩
  | ret=>exact⟨m,_,b7,ca,l7 (bits n X) l,this,g5⟩
 | exit id=>intro N X ρ T H Q aE bp h;exact⟨0,_,rfl,aE,ρ,bp,h⟩
 | label l=>intro N X ρ T H Q aE bp h;exact⟨0,_,rfl,aE,ρ,bp,h⟩
 | ret=>intro N X ρ T H Q aE bp h;exact⟨0,_,rfl,aE,ρ,bp,h⟩
 | rangeFunc g bJ cS body _ _=>
  intro N X ρ T H Q aE bp h;cases c6 with
  | false=>exact(show False from h).elim
  | true=>
   have h:FN P n bJ.toList cS body (qS ρ (bits n (sr cS body))) (Oi g ρ) H (Q .normal ρ) (fun id=>Q (.exit id) ρ) (Q .ret ρ):=h;have bp:iz (Nat.lor (Bd g) (Nat.lor (Nat.lor N X) (sr cS body))) ρ T:=bp;obtain⟨c1,c2⟩:=bp.or;obtain⟨c2,a3⟩:=c2.or;obtain⟨c2,a4⟩:=c2.or;obtain⟨m,o,b7,ca,g3⟩:=h T aE (Jv a3);have hg:(Cv g).g T=Oi g ρ:=by
    cases g with
    | tmp t=>exact c1 t (by show hR (Nat.shiftLeft 1 t) t=true;rw[Dk];simp)
    | _=>rfl
   refine⟨m,o,?_,by simp_all,ρ,?_,?_⟩
   ·show uY (eJ P m) ((Cv g).g T) bJ.toList cS body T H=some o
    simp_all
   ·rw[ca];cases o.cJ with
    | normal=>exact c2
    | exit id=>exact a4
    | ret=>exact a4
   ·revert g3;cases o.cJ with
    | normal=>exact fun h=>h
    | exit id=>exact fun h=>h
    | ret=>exact fun h=>h
 | _=>intros;rename_i h;exact h.elim
theorem VW:∀(bJ:List Tmp) (args T:List Value),(uW T bJ args).length=T.length
 | [],args,T=>by cases args<;>rfl
 | _::_,[],T=>rfl
 | p::bJ,v::vs,T=>by show(uW (gJ T p v) bJ vs).length=_;rw[VW,oS,length_set]
theorem VX{n:Nat}(args:List Value):∀(bJ:List Tmp) (k:Nat) (dO:List Value) (T:List Value) (ρ:eR) (m:Nat),T.length=n->(∀p∈bJ,p<n)->dO.length=bJ.length->(∀i,b4 args (k+i)=b4 dO i)->iz m ρ T->iz m (Jo bJ args k ρ) (uW T bJ dO)
 | [],k,dO,T,ρ,m,aE,bS,U,aR,bp=>by cases dO<;>exact bp
 | p::bJ,k,[],T,ρ,m,aE,bS,U,aR,bp=>by simp at U
 | p::bJ,k,v::vs,T,ρ,m,aE,bS,U,aR,bp=>by
  show iz m (Jo bJ args (k+1) (put ρ (some p) (b4 args k))) (uW (gJ T p v) bJ vs);have aN:b4 args k=v:=by have:=aR 0;rw[Nat.add_zero]at this;exact this
  refine VX args bJ (k+1) vs _ _ m (by simp_all[oS]) (fun q cf=>bS q (by simp[cf])) (by simp_all) (fun i=>by have:=aR (i+1);rw[show k+1+i=k+(i+1) by omega];exact this) ?_;rw[aN];refine FP (d:=some p) (n:=n) aE ?_ ?_;show Nat.blt p n=true
  simp_all
  intro i aq;have aq:hR (FH m p) i=true:=aq;rw[VN,Bool.and_eq_true]at aq;exact bp i aq.1
theorem ak1{n:Nat}{bJ:List Tmp}{cS body:Code}{lF args T:List Value}{l:Nat}{H:ar}{ab:Value->ar->Prop}(aE:eD H.dI l=some ⟨T,bJ,cS,body,.ready⟩)(bd:T.length=n)
  (jq:xJ (bits n (sr cS body)) (l7 (bits n (sr cS body)) lF) T) (hlen:args.length=bJ.length) (lk:∀p∈bJ,p<n) (h:Jp P n bJ cS body lF args l H ab):xF P (.round l args H) ab:=by
 have ak2:iz (sr cS body) (Jo bJ args 0 (l7 (bits n (sr cS body)) lF)) (uW T bJ args):=VX args bJ 0 args T _ _ bd lk hlen (fun i=>by simp_all) (Ow bd jq);obtain⟨fk,bZ,b7,ca,ze,g3,g4⟩:=FU false n cS (eV body 0 0) 0 _ _ H _ (by grind[VW]) ak2 h;obtain⟨bb,fw,br⟩:=bZ;cases bb with
 | exit id=>exact(show False from g4).elim
 | ret=>exact(show False from g4).elim
 | normal=>
  obtain⟨cB,b1,b2⟩:=(show FO l br (fun H=>qe P false n body 0 0 ze H fun e _ H=>Di l e H ab)from g4);obtain⟨dE,dr,ep,hl,Jw,oe,ak3⟩:=FU false n body 0 0 _ fw cB _ ca g3 b2;obtain⟨bt,ak4,iN⟩:=dr;obtain⟨uf,eP,dR⟩:=(show Di l bt iN ab from ak3);refine⟨max fk dE+1,.ret,.bool (yR bt),uf,?_,dR⟩;show vY P (eJ P (max fk dE)) l args H=_;unfold vY;rw[aE];simp only[gE,hlen,beq_refl];rw[wq (wt (Nat.le_max_left fk dE)) false _ _ _ _ b7];show(match Az l br with|some cB=>E5 l ((dn P false body).f (eJ P (max fk dE)) fw cB)|none=>none)=_
  grind[wq,wt,Nat.le_max_right,E5]
theorem ak5{c6:Bool}{n:Nat}{b:Code}{X:Nat}{bL:Nat->List Value->ar->Prop}{cy:List Value->ar->Prop}(aC0:eV b (eV b 0 X) X=eV b 0 X)(I:Nat->List Value->ar->Prop)
  (aw:∀k l H,I k l H->qe P c6 n b (eV b 0 X) X (l7 (bits n (eV b 0 X)) l) H (VG n b X (fun l H=>∃eE,eE<k/\I eE l H) bL cy)):∀k l H,I k l H->eI P c6 n b X l H bL cy:=by
 intro k;induction k using Nat.strongRecOn with
 | ind k a7=>
  intro l H xK T aE bp;obtain⟨m,o,h1,h2,kl,aB,bk⟩:=FU c6 n b _ _ _ T H _ aE (by simp_all[Ow]) (aw k l H xK);obtain⟨e,fw,br⟩:=o;have VY:e≠.normal->Oh bL cy e (qS kl (bits n X)) br->iz X kl fw->∃m o,eJ P m (.loop c6 b T H)=some o/\o.T.length=n/\∃l,xJ (bits n X) (l7 (bits n X) l) o.T/\Oh bL cy o.cJ l o.H:=by intro he cf jq;refine⟨m+1,⟨e,fw,br⟩,?_,h2,_,Jv jq,cf⟩;show mO ((dn P c6 b).f (eJ P m) T H) (fun T H=>eJ P m (.loop c6 b T H))=_;rw[h1];cases e<;>first|exact absurd rfl he|rfl
  cases e with
  | normal=>obtain⟨eE,ag,ak6⟩:=bk;obtain⟨dE,dr,b7,ca⟩:=a7 eE ag _ _ ak6 fw h2 (Jv aB);refine⟨max m dE+1,dr,?_,ca⟩;show mO ((dn P c6 b).f (eJ P (max m dE)) T H) (fun T H=>eJ P (max m dE) (.loop c6 b T H))=_;rw[wq (wt (Nat.le_max_left m dE)) c6 _ _ _ _ h1];exact wt (Nat.le_max_right m dE) _ _ b7
  | exit id=>exact VY (by simp) bk aB
  | ret=>exact VY (by simp) bk aB
theorem VZ{r:ResultVar}{ρ:eR}{T:List Value}{H:ar}{ab:Value->Prop}(bp:iz (Jr r) ρ T)(h:Jq P r ρ H ab):∃v,CB P T H r=some v/\ab v:=by
 cases r with
 | tmp t=>exact⟨b4 T t,rfl,by rw[bp t (by show hR (Nat.shiftLeft 1 t) t=true;rw[Dk];simp)];exact h⟩
 | cell a t=>obtain⟨v,aa,h1,h2⟩:=h;refine⟨v,?_,h2⟩;unfold CB;simp only[bp a (by show hR (Nat.shiftLeft 1 a) a=true;rw[Dk];simp),h1]
theorem V6{ρ:eR}{T:List Value}{H:ar}:∀(dq:List ResultVar) (k:List Value->Prop),iz (wx dq) ρ T->Oj P dq ρ H k->∃vs,yP P T H dq=some vs/\k vs
 | [],k,_,h=>⟨[],rfl,h⟩
 | r::dq,k,bp,h=>by obtain⟨c1,c2⟩:=(show iz (Nat.lor (Jr r) (wx dq)) ρ T from bp).or;obtain⟨v,h1,h2⟩:=VZ c1 (show Jq P r ρ H fun v=>Oj P dq ρ H fun vs=>k (v::vs)from h);obtain⟨vs,aB,bk⟩:=V6 dq _ c2 h2;exact⟨v::vs,by unfold yP;simp only[h1,aB],bk⟩
theorem V7{dq:List ResultVar}{ρ:eR}{T:List Value}{H:ar}{ab:Value->ar->Prop}(bp:iz (wx dq) ρ T)(h:Dj P dq ρ H ab):∃v,yQ P dq T H=some v/\ab v H:=by
 unfold Dj at h;unfold yQ;split at h;rename_i r;obtain⟨c1,_⟩:=(show iz (Nat.lor (Jr r) (wx [])) ρ T from bp).or;exact VZ c1 h
 grind[V6]
noncomputable def FV(P:Program)(c:Code)(f:FuncId)(args:List Value)(H:ar)(ab:Value->ar->Prop):Prop:=match P.funcs.toList[f]? with
 | some fn=>match Nat.ble (fG args) fn.ntmps&&Nat.ble (fG args) (fn.params.size+fn.nfree)with
  | true=>qe P true fn.ntmps c (wx fn.results.toList) (wx fn.results.toList) (fun i=>b4 args i) H (VL P fn.results.toList ab)
  | false=>False
 | none=>False
theorem Dm{f:FuncId}{args:List Value}{H:ar}{ab:Value->ar->Prop}(ey:dX.kx f args H=none)(h:zd P f args H ab)(an:dX.oi f=none:=by rfl):az P f args H ab:=by
 unfold zd at h;split at h
 case h_2=>grind
 case h_1 fn hf=>
 split at h
 case h_2=>grind
 case h_1 c aD=>
 split at h
 case h_2=>grind
 case h_1 hlen=>
 rw[lR,gE]at hlen;have hlen:=of_decide_eq_true hlen;have bd:(hP args (fR (fn.ntmps-fG args) [undef])).length=fn.ntmps:=by simp_all[iv,y8,gE]
 have aR:∀i,b4 (hP args (fR (fn.ntmps-fG args) [undef])) i=b4 args i:=by grind[iv,y8,oR]
 obtain⟨m,o,h1,h2,kl,aB,bk⟩:=FU true fn.ntmps c _ _ _ _ H _ bd (fun i _=>aR i) h;obtain⟨e,fw,br⟩:=o;have ed:e≠.exit 0->(∀id,e≠.exit id)->iz (wx fn.results.toList) kl fw->Dj P fn.results.toList kl br ab->az P f args H ab:=by
  intro _ al jq U;obtain⟨v,b7,ca⟩:=V7 jq U;refine⟨m+1,.ret,v,br,?_,ca⟩;show(match dX.kx f args H with|some v=>some (⟨.ret,[v],H⟩:dY)|none=>match dX.oi f with|some c=>rG P f c (eJ P m) args H|none=>(tP P f).f (eJ P m) args H)=_
  simp_all[tP,u0]
 cases e with
 | normal=>exact ed (by simp) (by simp) aB bk
 | exit id=>exact(show False from bk).elim
 | ret=>exact ed (by simp) (by simp) aB bk
theorem Ox{c:Code}{f:FuncId}{args:List Value}{H:ar}{ab:Value->ar->Prop}(ey:dX.kx f args H=none)(h:FV P c f args H ab)(an:dX.oi f=some c:=by rfl):az P f args H ab:=by
 unfold FV at h;split at h
 case h_2=>grind
 case h_1 fn hf=>
 split at h
 case h_2=>grind
 case h_1 hlen=>
 rw[Bool.and_eq_true]at hlen;have lg:=hlen.2;have hlen:=hlen.1;rw[lR,gE]at hlen;have hlen:=of_decide_eq_true hlen;have bd:(hP args (fR (fn.ntmps-fG args) [undef])).length=fn.ntmps:=by simp_all[iv,y8,gE]
 have aR:∀i,b4 (hP args (fR (fn.ntmps-fG args) [undef])) i=b4 args i:=by grind[iv,y8,oR]
 obtain⟨m,o,h1,h2,kl,aB,bk⟩:=FU true fn.ntmps c _ _ _ _ H _ bd (fun i _=>aR i) h;obtain⟨e,fw,br⟩:=o;have ed:e≠.exit 0->(∀id,e≠.exit id)->iz (wx fn.results.toList) kl fw->Dj P fn.results.toList kl br ab->az P f args H ab:=by
  intro _ al jq U;obtain⟨v,b7,ca⟩:=V7 jq U;refine⟨m+1,.ret,v,br,?_,ca⟩;show(match dX.kx f args H with|some v=>some (⟨.ret,[v],H⟩:dY)|none=>match dX.oi f with|some c=>rG P f c (eJ P m) args H|none=>(tP P f).f (eJ P m) args H)=_;rw[ey,an];simp only;unfold rG;rw[hf];simp only;rw[h1];unfold u0
  grind
 cases e with
 | normal=>exact ed (by simp) (by simp) aB bk
 | exit id=>exact(show False from bk).elim
 | ret=>exact ed (by simp) (by simp) aB bk
end
end Go.Ab
namespace Go.Ab
open Go
local instance:hD:=⟨fun _=>none,0⟩
abbrev ai(p o:Nat):Value:=.pointer (some ⟨p,o,none⟩)
abbrev int(n:Int):Value:=.int .i64 n
abbrev aC(p o n c:Nat):Value:=.slice (some ⟨p,o,none⟩) n c
abbrev bq:Value:=.slice none 0 0
section pure
variable{P:Program}{H:ar}{k:IntKind}
theorem Oy{v:Value}{H:ar}{ab:Value->ar->Prop}:af (some (v,H)) ab=ab v H:=by grind[af]
theorem V8{A B:Prop}:aG (.bool true) A B=A:=by simp_all[aG]
theorem V9{A B:Prop}:aG (.bool false) A B=B:=by simp_all[aG]
theorem qf{b:Bool}{A B:Prop}(h1:b=true->A)(h2:b=false->B):aG (.bool b) A B:=
 ⟨fun e=>h1 (by grind),fun e=>h2 (by grind),b,rfl⟩
theorem bz{p:Prop}[Decidable p]{A B:Prop}(h1:p->A)(h2:¬p->B):aG (.bool (decide p)) A B:=
 qf (fun h=>h1 (of_decide_eq_true h)) (fun h=>h2 (of_decide_eq_false h))
theorem ll{a b:Value}:aY (.bool true) a b=some a:=rfl
theorem mr{a b:Value}:aY (.bool false) a b=some b:=rfl
theorem Wa{a:Addr}:rv (.pointer (some a))=some (.pointer (some a)):=rfl
theorem b0{o p q:Nat}:bF o (ai p q)=some (ai p (q+o)):=rfl
theorem cu{v:Value}{l:List Value}:b4 (v::l) 0=v:=rfl
theorem cv{v:Value}{l:List Value}{n:Nat}:b4 (v::l) (n+1)=b4 l n:=rfl
theorem xL{a:Option Addr}{n c:Nat}{H:ar}:bP (.slice a n c) H=some (.int .i64 n,H):=rfl
theorem Wb:tE k k=true:=by cases k<;>rfl
theorem qT{op:BinOp}{t:TypeId}{c:Bool}(a b:Int)(h:Cp op=none):(au P op t c).f (.int k a) (.int k b)=HH op k a b:=by simp_all[au,Wb]
variable{t:TypeId}{c:Bool}{a b:Int}
theorem Wc:(au P .add t c).f (.int k a) (.int k b)=some (.int k (iJ k (a+b))):=qT a b rfl
theorem Wd:(au P .sub t c).f (.int k a) (.int k b)=some (.int k (iJ k (a-b))):=qT a b rfl
theorem We:(au P .mul t c).f (.int k a) (.int k b)=some (.int k (iJ k (a*b))):=qT a b rfl
theorem fl:(au P .eql t c).f (.int k a) (.int k b)=some (.bool (decide (a=b))):=by rw[qT a b rfl];show some (Value.bool (oN a b))=_;rw[rA]
theorem ik:(au P .neq t c).f (.int k a) (.int k b)=some (.bool (decide (a≠b))):=by rw[qT a b rfl];show some (Value.bool (not (oN a b)))=_;rw[rA];simp
theorem ez:(au P .lss t c).f (.int k a) (.int k b)=some (.bool (decide (a<b))):=by rw[qT a b rfl];show some (Value.bool (not (j7 b a)))=_;grind[k9]
theorem kQ:(au P .gtr t c).f (.int k a) (.int k b)=some (.bool (decide (b<a))):=by rw[qT a b rfl];show some (Value.bool (not (j7 a b)))=_;grind[k9]
theorem Oz:(au P .leq t c).f (.int k a) (.int k b)=some (.bool (decide (a<=b))):=by rw[qT a b rfl];show some (Value.bool (j7 a b))=_;rw[k9]
theorem ss:(au P .geq t c).f (.int k a) (.int k b)=some (.bool (decide (b<=a))):=by rw[qT a b rfl];show some (Value.bool (j7 b a))=_;rw[k9]
theorem jF{b:Bool}:hQ .not (.bool b)=some (.bool !b):=rfl
theorem ak7:pn [.int k a,.int k b]=some (.int k (min a b)):=by
 show some (Value.int k (cond (j7 a b) a b))=_
 grind[k9]
theorem ak8:po [.int k a,.int k b]=some (.int k (max a b)):=by
 show some (Value.int k (cond (j7 b a) a b))=_
 grind[k9]
theorem xM{n:Int}(h1:-9223372036854775808<=n)(h2:n<=9223372036854775807):iJ .i64 n=n:=by
 show tF 9223372036854775808 18446744073709551616 n=n;unfold tF;cases n with
 | ofNat m=>grind[p7]
 | negSucc m=>grind[p7]
theorem h4{p o n c size:Nat}{i:Int}(aN:0<=i)(h1:i<n):gd size (aC p o n c) (.int k i)=some (ai p (o+i.toNat*size)):=by
 show eO n size (ai p o) (.int k i)=_;unfold eO;have bb:j7 0 i=true:=by simp_all[k9]
 have bt:Nat.blt i.toNat n=true:=by simp_all
 simp only[bb,bt];rfl
theorem fy{p o n size:Nat}{i:Int}(aN:0<=i)(h1:i<n):eO n size (ai p o) (.int k i)=some (ai p (o+i.toNat*size)):=by
 unfold eO;have bb:j7 0 i=true:=by simp_all[k9]
 have bt:Nat.blt i.toNat n=true:=by simp_all
 simp only[bb,bt];rfl
end pure
namespace Tr
variable{α:Type}
def qg:Tr α->Nat->Prop
 | .nil,_=>False
 | .kO _ _ _,0=>True
 | .kO l _ r,k+1=>if k%2=0 then qg l (k/2)else qg r (k/2)
def rJ(t:Tr α)(N:Nat):Prop:=∀m,m<N->qg t m
theorem Wf(l r:Tr α)(x v:Option α)(n:Nat):(Tr.kO l x r).set (n+1) v=if n%2=0 then .kO (l.set (n/2) v) x r else .kO l x (r.set (n/2) v):=by
 have e:(Tr.kO l x r).set (n+1) v=cond (Nat.beq (Nat.mod n 2) 0) (.kO (l.set (Nat.div n 2) v) x r) (.kO l x (r.set (Nat.div n 2) v)):=rfl;rw[e];cases h:Nat.beq (Nat.mod n 2) 0 with
 | true=>rw[if_pos (show n%2=0 from eq_of_beq_eq_true h)];rfl
 | false=>rw[if_neg (show¬n%2=0 from ne_of_beq_eq_false h)];rfl
theorem Wg(l r:Tr α)(x:Option α)(n:Nat):(Tr.kO l x r).get (n+1)=if n%2=0 then l.get (n/2)else r.get (n/2):=by
 rw[E6];cases h:Nat.beq (Nat.mod n 2) 0 with
 | true=>rw[if_pos (show n%2=0 from eq_of_beq_eq_true h)];rfl
 | false=>rw[if_neg (show¬n%2=0 from ne_of_beq_eq_false h)];rfl
theorem zf(t:Tr α)(n m:Nat)(v:Option α)(h:qg t m):qg (t.set n v) m:=by
 induction t generalizing n m with
 | nil=>exact h.elim
 | kO l x r ak9 ala=>
  cases n with
  | zero=>cases m<;>exact h
  | succ n=>
   rw[Wf];cases m with
   | zero=>split<;>exact trivial
   | succ m=>
    have h:(if m%2=0 then qg l (m/2)else qg r (m/2)):=h;split;show(if m%2=0 then qg (l.set (n/2) v) (m/2)else qg r (m/2))
    grind
    show(if m%2=0 then qg l (m/2)else qg (r.set (n/2) v) (m/2))
    grind
theorem zg(t:Tr α)(n:Nat)(v:Option α)(h:rJ t n):(t.set n v).get n=v/\qg (t.set n v) n:=by
 induction t generalizing n with
 | nil=>
  cases n with
  | zero=>exact⟨rfl,trivial⟩
  | succ n=>exact(h 0 (succ_pos _)).elim
 | kO l x r ak9 ala=>
  cases n with
  | zero=>exact⟨rfl,trivial⟩
  | succ n=>
   rw[Wf];split;rename_i aR;have aE:rJ l (n/2):=fun m hm=>by
    have:=h (2*m+1) (by omega)
    simp_all[qg]
   simp_all[Wg,qg]
   rename_i aR;have U:rJ r (n/2):=fun m hm=>by
    have:=h (2*m+2) (by omega);have:(if(2*m+1)%2=0 then qg l ((2*m+1)/2)else qg r ((2*m+1)/2)):=this
    grind
   simp_all[Wg,qg]
end Tr
class bW where
 l:List (Nat×ha)
instance (priority:=1) aC1:bW:=⟨[]⟩
structure aj [bW] (H:ar) (ae:List (Nat×ay)):Prop where
 ck:H.dB=0
 qU:H.t.rJ H.next
 su:(ae.map (·.1)).Nodup
 lt:∀x∈ae,x.1<H.next
 get:∀x∈ae,(x.2.wr=true\/x.2.cells≠[])->H.get x.1=some x.2
 dI:H.dI=bW.l
 Dn:∀x∈(bW.l:List (Nat×ha)),x.1<H.next
section st
variable[dX][bW]{P:Program}{H:ar}{ae bX:List (Nat×ay)}
theorem aj.at(h:aj H ae)(i:Nat){p:Nat}{b:ay}(aq:ae[i]?=some (p,b))(al:b.wr=true\/b.cells≠[]):H.get p=some b:=h.get (p,b) (mem_of_getElem? aq) al
theorem aj.sub(h:aj H ae)(aw:bX.Sublist ae):aj H bX:=
 ⟨h.ck,h.qU,h.su.sublist (aw.map _),fun x al=>h.lt x (aw.subset al),fun x al=>h.get x (aw.subset al),h.dI,h.Dn⟩
theorem aj.left(h:aj H (ae++bX)):aj H ae:=h.sub (sublist_append_left ae bX)
theorem aj.e4(h:aj H ae)(bS:ae.Perm bX):aj H bX:=
 ⟨h.ck,h.qU,(bS.map _).nodup_iff.1 h.su,fun x al=>h.lt x (bS.mem_iff.2 al),fun x al=>h.get x (bS.mem_iff.2 al),h.dI,h.Dn⟩
theorem alb(H:ar)(bc:H.t.rJ H.next)(ao:List Value):(H.push ao).get H.next=some ⟨ao,true⟩:=(Tr.zg _ _ _ bc).1
theorem alc(H:ar)(ao:List Value){i:Nat}(h:i≠H.next):(H.push ao).get i=H.get i:=Tr.ly _ _ _ _ h
theorem aj.push(h:aj H ae)(ao:List Value):aj (H.push ao) (ae++[(H.next,⟨ao,true⟩)]):=by
 refine⟨h.ck,fun m hm=>?_,?_,fun x al=>?_,fun x al aM=>?_,h.dI,fun x al=>lt_succ_of_lt (h.Dn x al)⟩;by_cases he:m=H.next;subst he;exact(Tr.zg _ _ _ h.qU).2;have hm:m<H.next+1:=hm;exact Tr.zf _ _ _ _ (h.qU m (by omega));rw[map_append,map_cons,map_nil,nodup_append];refine⟨h.su,by simp,fun a bp b an=>?_⟩;obtain⟨x,al,rfl⟩:=mem_map.1 bp;have:=h.lt x al
 grind
 show x.1<H.next+1;rcases mem_append.1 al with al|al
 have:=h.lt x al;omega
 simp_all
 rcases mem_append.1 al with al|al
 have:=h.lt x al;rw[alc H ao (by omega)];exact h.get x al aM;simp at al;subst al;exact alb H h.qU ao
theorem c4{ao:List Value}{ab:Value->ar->Prop}(h:aj H ae)(ag:∀p aa,aj aa (ae++[(p,⟨ao,true⟩)])->ab (ai p 0) aa):cp ao H ab:=ag _ _ (h.push ao)
theorem ald{p o:Nat}{b:ay}{v:Value}(h:H.get p=some b)(hv:b.cells[o]?=some v):ax (ai p o) H=some (v,H):=by show fT H (Ar H p o)=_;unfold Ar;rw[h];simp only[u1,hv];rfl
theorem aP{p o:Nat}{b:ay}{v:Value}{ab:Value->ar->Prop}(h:aj H ae)(i:Nat)(aq:ae[i]?=some (p,b))(hv:b.cells[o]?=some v)(ag:ab v H):af (ax (ai p o) H) ab:=by rw[ald (h.at i aq (.inr fun e=>by simp_all)) hv,Oy];exact ag
theorem ale{p o n:Nat}{b:ay}(h:H.get p=some b)(aR:n<=b.cells.length-o):bT n (ai p o) H=some (.agg ((b.cells.drop o).take n).toArray,H):=by simp_all[bT,AA,mj,nh,xb,gE]
theorem hG{p o n:Nat}{b:ay}{ao:List Value}{ab:Value->ar->Prop}(h:aj H ae)(i:Nat)(aq:ae[i]?=some (p,b))(hv:(b.cells.drop o).take n=ao)(aR:ao.length=n)(bS:0<n)(ag:ab (.agg ao.toArray) H):af (bT n (ai p o) H) ab:=by subst hv;rw[ale (h.at i aq (.inr fun e=>by simp_all)) (by grind),Oy];exact ag
theorem alf{i:Nat}{p:Nat}{b c0:ay}(aq:ae[i]?=some (p,b)):(ae.set i (p,c0)).map (·.1)=ae.map (·.1):=by
 apply ext_getElem?
 grind
theorem aj.iW(h:aj H ae){i p:Nat}{b:ay}(aq:ae[i]?=some (p,b))(al:b.wr=true\/b.cells≠[])(c0:ay):aj (H.set p (some c0)) (ae.set i (p,c0)):=by
 have hm:∀x∈ae.set i (p,c0),x=(p,c0)\/(x∈ae/\x.1≠p):=by
  intro x al;obtain⟨j,bh⟩:=mem_iff_getElem?.1 al;rw[List.getElem?_set]at bh;by_cases he:i=j
  simp_all
  rw[if_neg he]at bh;refine .inr ⟨mem_of_getElem? bh,fun e=>he ?_⟩;have eZ:(ae.map (·.1))[i]?=some p:=by simp_all
  have fI:(ae.map (·.1))[j]?=some p:=by simp_all
  exact(List.getElem?_inj (by grind) h.su).1 (eZ.trans fI.symm)
 refine⟨h.ck,fun m hm=>Tr.zf _ _ _ _ (h.qU m hm),by rw[alf aq];exact h.su,fun x al=>?_,fun x al aM=>?_,h.dI,h.Dn⟩;rcases hm x al with rfl|⟨al,_⟩
 exact h.lt (p,b) (mem_of_getElem? aq);exact h.lt x al;rcases hm x al with rfl|⟨al,da⟩
 exact Tr.TN _ _ _ _ (h.at i aq ‹_›);exact(Tr.ly _ _ _ _ da).trans (h.get x al aM)
theorem FW(h:aj H ae){i p o:Nat}{ao vs:List Value}(aq:ae[i]?=some (p,⟨ao,true⟩))(aR:o+vs.length<=ao.length)(h1:vs.all eA=true):
  ∃aa,uQ H p o vs=some aa/\aj aa (ae.set i (p,⟨ao.take o++(vs++ao.drop (o+vs.length)),true⟩)):=by
 refine⟨_,?_,h.iW aq (.inl rfl) _⟩;rw[H0];rw[h.at i aq (.inl rfl)];have e:(ar.nZ H p ⟨ao,true⟩&&(Nat.ble (o+fG vs) (fG ao)&&jM eA vs))=true:=by
  unfold ar.nZ;rw[h.ck]
  simp_all[gE,j0]
 grind[iv,mj,nh,gE]
theorem o0{n p o:Nat}{v:Value}{ao:List Value}{ab:Value->ar->Prop}(h:aj H ae)(i:Nat)(aq:ae[i]?=some (p,⟨ao,true⟩))(aE:(cZ v).length=n)(aR:o+n<=ao.length)(h1:(cZ v).all eA=true)
  (ag:∀aa,aj aa (ae.set i (p,⟨ao.take o++(cZ v++ao.drop (o+n)),true⟩))->ab undef aa):af (bm n (ai p o) v H) ab:=by
 obtain⟨aa,aM,aw⟩:=FW h (o:=o) (vs:=cZ v) aq (by omega) h1
 simp_all[bm,gE,Oy]
theorem fm{p o:Nat}{v:Value}{ao bu:List Value}{ab:Value->ar->Prop}(h:aj H ae)(i:Nat)(aq:ae[i]?=some (p,⟨ao,true⟩))(h1:eA v=true)(aR:o<ao.length)(aD:ao.set o v=bu)
  (ag:∀aa,aj aa (ae.set i (p,⟨bu,true⟩))->ab undef aa):af (bm 1 (ai p o) v H) ab:=by
 have hv:cZ v=[v]:=by cases v<;>first|rfl|(cases h1;done)
 refine o0 h i aq (by grind) (by omega) (by simp_all) fun aa hO=>ag aa ?_
 have e:ao.take o++(cZ v++ao.drop (o+1))=bu:=by
  rw[hv,<- aD];apply ext_getElem?;intro j;rw[List.getElem?_set];by_cases bh:j<o
  ·grind
  ·rw[List.getElem?_append_right (by grind),length_take,Nat.min_eq_left (by omega)];by_cases Dp:j=o
   ·simp_all
   ·rw[List.getElem?_append_right (by grind),List.getElem?_drop,if_neg (Ne.symm Dp)]
    grind
 simp_all
def sv:Value->Bool
 | .bool _=>true
 | .int _ _=>true
 | .string _=>true
 | .pointer a=>match a with|none=>true|some a=>a.spot.isNone
 | .slice a _ _=>match a with|none=>true|some a=>a.spot.isNone
 | .map _=>true
 | .nilFunc=>true
 | .nilIface=>true
 | _=>false
def Wh:Fn->Bool
 | .func _=>true
 | _=>false
def fE:Value->Bool
 | .iface _ v=>sv v
 | .func f a b=>Wh f&&(a.toList.all sv&&b.toList.all sv)
 | v=>sv v
theorem Jy{α:Type}{p:α->α->Bool}:∀l:List α,(∀x∈l,p x x=true)->tD p l l=true
 | [],_=>rfl
 | x::l,h=>by
  show cond (p x x) (tD p l l) false=true
  simp_all[Jy]
theorem Wi{a:Option Addr}(h:(match a with|none=>true|some a=>a.spot.isNone)=true):Cz a a=true:=by
 cases a with
 | none=>rfl
 | some a=>
  obtain⟨i,o,s⟩:=a;cases s with
  | none=>show(Nat.beq i i&&Nat.beq o o)=true;simp_all
  | some _=>cases h
theorem OA(sub:Value->Value->Bool){v:Value}(h:sv v=true):Ax sub v v=true:=by
 cases v<;>first|(cases h;done)|skip
 case bool b=>cases b<;>rfl
 case int k n=>show(tE k k&&oN n n)=true;rw[Wb,rA];simp
 case string s=>show tD Mq s.data.toList s.data.toList=true;exact Jy _ fun x _=>beq_refl _
 case pointer a=>exact Wi h
 case slice a n c=>show(Cz a a&&(Nat.beq n n&&Nat.beq c c))=true;rw[Wi h,beq_refl,beq_refl];rfl
 case map a=>cases a with
  | none=>rfl
  | some i=>exact beq_refl i
 case nilFunc=>rfl
 rfl
theorem alg{v:Value}(h:fE v=true):Mr v v=true:=by
 cases v<;>first|exact OA _ h|skip
 case iface t v=>show(Nat.beq t t&&Ax _ v v)=true;rw[beq_refl,OA _ h];rfl
 case func f a b=>
  have h:(Wh f&&(a.toList.all sv&&b.toList.all sv))=true:=h;rw[Bool.and_eq_true,Bool.and_eq_true,all_eq_true,all_eq_true]at h;obtain⟨aN,h1,h2⟩:=h;cases f<;>first|(cases aN;done)|skip
  rename_i g;show(Nat.beq g g&&(tD _ a.toList a.toList&&tD _ b.toList b.toList))=true
  grind[beq_refl,Jy,OA]
theorem alh{H aa:ar}{p:Nat}{b:ay}(h:H.get p=some b)(a6:aa.get p=some b)(aw:b.cells.all fE=true):dV H aa p=true:=by unfold dV;rw[h,a6];simp only;rw[Jy _ fun x al=>alg (all_eq_true.1 aw x al)];cases b.wr<;>rfl
theorem ali{s:Nat->Bool}:ea s (b9 []):=rfl
theorem alj{s:Nat->Bool}{p o:Nat}{l:List Value}(bS:s p=true)(h:ea s (b9 l)):ea s (b9 (ai p o::l)):=by
 have e:b9 (ai p o::l)=p::b9 l:=rfl
 simp_all[ea,j0]
theorem gu{H aa:ar}{bX:List (Nat×ay)}{p o:Nat}{b:ay}(h:aj H ae)(i:Nat)(aq:ae[i]?=some (p,b))(a6:aj aa bX)(j:Nat)(bh:bX[j]?=some (p,b))(aw:b.cells.all fE=true)(al:b.wr=true\/b.cells≠[]:=by exact .inl rfl):ea (dV H aa) (b9 [ai p o]):=
 alj (alh (h.at i aq al) (a6.at j bh al) aw) ali
theorem ah{r:Option Value}{v:Value}{ab:Value->Prop}(h:r=some v)(ag:ab v):ad r ab:=⟨v,h,ag⟩
theorem bV{r:R}{v:Value}{aa:ar}{ab:Value->ar->Prop}(h:r=some (v,aa))(ag:ab v aa):af r ab:=⟨v,aa,h,ag⟩
theorem rK{p:Prop}[Decidable p]{A B:Prop}(h:p)(hA:A):aG (.bool (decide p)) A B:=by simp_all[V8]
theorem nr{p:Prop}[Decidable p]{A B:Prop}(h:¬p)(dP:B):aG (.bool (decide p)) A B:=by simp_all[V9]
theorem hT{p:Prop}[Decidable p]{a b:Value}(h:p):aY (.bool (decide p)) a b=some a:=by rw[decide_eq_true h];rfl
theorem ho{p:Prop}[Decidable p]{a b:Value}(h:¬p):aY (.bool (decide p)) a b=some b:=by rw[decide_eq_false h];rfl
theorem km{b:Bool}{A B:Prop}(h:b=true)(hA:A):cond b A B:=by simp_all
theorem jg{t:TypeId}{c:Bool}{a b:Int}(h1:-9223372036854775808<=a+b)(h2:a+b<=9223372036854775807):(au P .add t c).f (.int .i64 a) (.int .i64 b)=some (.int .i64 (a+b)):=by rw[Wc,xM h1 h2]
theorem mu{t:TypeId}{c:Bool}{a b:Int}(h1:-9223372036854775808<=a-b)(h2:a-b<=9223372036854775807):(au P .sub t c).f (.int .i64 a) (.int .i64 b)=some (.int .i64 (a-b)):=by rw[Wd,xM h1 h2]
theorem xN{t:TypeId}{c:Bool}{a b:Int}(h1:-9223372036854775808<=a*b)(h2:a*b<=9223372036854775807):(au P .mul t c).f (.int .i64 a) (.int .i64 b)=some (.int .i64 (a*b)):=by rw[We,xM h1 h2]
theorem vr{H:ar}{k:IntKind}{a b:Int}:fT H (pn [.int k a,.int k b])=some (.int k (min a b),H):=by rw[ak7];rfl
theorem zh{H:ar}{k:IntKind}{a b:Int}:fT H (po [.int k a,.int k b])=some (.int k (max a b),H):=by rw[ak8];rfl
theorem e6{A:(List Value->ar->Prop)->Prop}{B:List Value->ar->Prop}(J:List Value->ar->Prop)(h1:A J)(h2:∀l H,J l H->B l H):e3 A B:=⟨J,h1,h2⟩
theorem zi{A:(List Value->ar->Prop)->Prop}{B:List Value->ar->Prop}(h1:A B):e3 A B:=⟨B,h1,fun _ _ h=>h⟩
end st
end Go.Ab
namespace Go.Ab
open Go
local instance:hD:=⟨fun _=>none,0⟩
section
variable[dX][bW]{H:ar}{ae:List (Nat×ay)}{ab:Value->ar->Prop}
theorem fg{b:Bool}{A B:Prop}(h:b=true)(hA:A):aG (.bool b) A B:=by simp_all[V8]
theorem et{b:Bool}{A B:Prop}(h:b=false)(dP:B):aG (.bool b) A B:=by simp_all[V9]
theorem alk(n:Nat)(v:Value):fR n [v]=List.replicate n v:=y8 n v
theorem gj{r:R}{n c:Nat}{ao:List Value}(h:aj H ae)(U:r=some (aC H.next 0 n c,H.push ao))(ag:∀p aa,aj aa (ae++[(p,⟨ao,true⟩)])->ab (aC p 0 n c) aa):af r ab:=
 bV U (ag _ _ (h.push ao))
theorem alm{size bytes:Nat}{z:List Value}{k eE:IntKind}{n:Nat}(h1:n*bytes<=281474976710656)(h2:n<=9223372036854775807):
  tI size bytes z (.int k n) (.int eE n) H=some (aC H.next 0 n (2*size+1),H.push (fR n z)):=by
 unfold tI;simp only[Int.toNat_natCast];rw[if_pos (by omega),if_pos (by omega),if_pos (by simp_all)];have:oN (n:Int) n=true:=by rw[rA];simp
 rw[this];rfl
theorem FX{size bytes:Nat}{z:List Value}{k eE:IntKind}{n:Nat}(h:aj H ae)(h1:n*bytes<=281474976710656)(h2:n<=9223372036854775807)
  (ag:∀p aa,aj aa (ae++[(p,⟨fR n z,true⟩)])->ab (aC p 0 n (2*size+1)) aa):af (tI size bytes z (.int k n) (.int eE n) H) ab:=
 gj h (alm h1 h2) ag
def bB(v:Value)(ao:List Value):List (Nat×ay):=match v with
 | .slice (some a) _ _=>[(a.block,⟨ao,true⟩)]
 | _=>[]
def il(size:Nat)(v:Value)(n:Nat)(ao:List Value):Prop:=
 (v=bq/\n=0/\ao=[])\/(∃p,(v=aC p 0 n (2*size)\/v=aC p 0 n (2*size+1))/\ao.length=n*size)
theorem il.nil{size:Nat}:il size bq 0 []:=.inl ⟨rfl,rfl,rfl⟩
theorem il.len{size n:Nat}{v:Value}{ao:List Value}(h:il size v n ao):ao.length=n*size:=by
 rcases h with⟨_,rfl,rfl⟩|⟨p,_,h⟩
 simp;exact h
theorem il.bP{size n:Nat}{v:Value}{ao:List Value}(h:il size v n ao):bP v H=some (.int .i64 n,H):=by rcases h with⟨rfl,rfl,_⟩|⟨p,rfl|rfl,_⟩<;>rfl
theorem aj.gG(h:aj H ae){i p:Nat}{b:ay}(aq:ae[i]?=some (p,b)):aj (H.set p none) (ae.eraseIdx i):=by
 have hm:∀x∈ae.eraseIdx i,x∈ae/\x.1≠p:=by
  intro x al;refine⟨mem_of_mem_eraseIdx al,fun e=>?_⟩;obtain⟨j,bh⟩:=mem_iff_getElem?.1 al;rw[List.getElem?_eraseIdx]at bh;have eZ:(ae.map (·.1))[i]?=some p:=by simp_all
  have dy:i<(ae.map (·.1)).length:=by grind
  split at bh;rename_i Io;have fI:(ae.map (·.1))[j]?=some p:=by simp_all
  have:=(List.getElem?_inj dy h.su).1 (eZ.trans fI.symm);omega;rename_i Io;have fI:(ae.map (·.1))[j+1]?=some p:=by simp_all
  have:=(List.getElem?_inj dy h.su).1 (eZ.trans fI.symm);omega
 exact⟨h.ck,fun m hm=>Tr.zf _ _ _ _ (h.qU m hm),h.su.sublist ((eraseIdx_sublist ae i).map _),fun x al=>h.lt x (hm x al).1,
  fun x al aM=>(Tr.ly _ _ _ _ (hm x al).2).trans (h.get x (hm x al).1 aM),h.dI,h.Dn⟩
theorem aln{size n p o:Nat}{b:ay}{c:Nat}(h:H.get p=some b)(aR:o+n*size<=b.cells.length)(aD:c=n):r7 H size n (aC p o c 0)=some ((b.cells.drop o).take (n*size)):=by
 unfold r7;simp only;split
 simp_all
 grind[AA,xb,mj,nh,gE,beq_refl]
theorem Dq{size n p o c:Nat}{b:ay}(h:H.get p=some b)(aR:o+n*size<=b.cells.length):r7 H size n (aC p o n c)=some ((b.cells.drop o).take (n*size)):=aln h aR rfl
theorem wz{n bytes:Nat}(h:n*bytes<=140737488355328)(h2:n<=9223372036854775807):xd n bytes=true:=by
 unfold xd;rw[Bool.and_eq_true,lR,lR]
 grind
theorem OB{size bytes n m:Nat}{v x:Value}{ao cL:List Value}(h:aj H (ae++bB v ao))(hv:il size v n ao)(bS:0<size)(hm:mM x=some m)(al:r7 H size m x=some cL)(Fj:0<m)
  (U:(n+m)*bytes<=140737488355328) (ie:n+m<=9223372036854775807) (h1:cL.all eA=true) (hlen:cL.length=m*size)
  (ag:∀p aa,aj aa (ae++[(p,⟨ao++cL,true⟩)])->il size (aC p 0 (n+m) (2*size)) (n+m) (ao++cL)->ab (aC p 0 (n+m) (2*size)) aa):af (fu size bytes v x H) ab:=by
 have xO:∀p,il size (aC p 0 (n+m) (2*size)) (n+m) (ao++cL):=fun p=>.inr ⟨p,.inl rfl,by rw[length_append,hlen,hv.len,Nat.add_mul]⟩
 unfold fu;simp only[hm,al];have qR:Nat.beq m 0=false:=by grind[eq_of_beq_eq_true]
 rcases hv with⟨rfl,rfl,rfl⟩|⟨p,hv,aE⟩
 unfold qE;simp only[qR,Bool.false_eq_true,if_false];rw[if_pos (wz (by simp_all) (by omega))];refine bV (show lO cL m (2*size) H=some (aC H.next 0 m (2*size),H.push cL)from rfl) ?_;have h:aj H ae:=by simp_all[bB]
 have:=ag _ _ (h.push cL) (xO _)
 simp_all
 have pH:bB v ao=[(p,⟨ao,true⟩)]:=by rcases hv with rfl|rfl<;>rfl
 rw[pH]at h;have aq:(ae++[(p,(⟨ao,true⟩:ay))])[ae.length]?=some (p,⟨ao,true⟩):=by simp
 have nL:=h.at _ aq (.inl rfl);have zj:=h.gG aq;have he:(ae++[(p,(⟨ao,true⟩:ay))]).eraseIdx ae.length=ae:=by grind
 rw[he]at zj;unfold qE;rcases hv with rfl|rfl
 simp only[qR,Bool.false_eq_true,if_false];rw[if_pos (wz U ie)];have alo:Nat.beq (2*size) (2*size+1)=false:=by grind[eq_of_beq_eq_true]
 rw[alo];simp only[Bool.false_eq_true,if_false,beq_refl,if_true];unfold Am;rw[nL];have e:(ar.nZ H p ⟨ao,true⟩&&(Nat.ble (0+n*size) (fG ao)&&jM eA cL))=true:=by unfold ar.nZ;rw[h.ck,gE,j0,h1,lR,lR,decide_eq_true (by omega:0+n*size<=ao.length)];simp
 simp only[e];have bt:hP (qD (p1 ao (0+n*size)) 0) cL=ao++cL:=by simp_all[iv,nh,mj,take_of_length_le]
 rw[bt];exact bV (show lO (ao++cL) (n+m) (2*size) (H.set p none)=some (aC H.next 0 (n+m) (2*size),(H.set p none).push (ao++cL))from rfl) (ag _ _ (zj.push _) (xO _));simp only[qR,Bool.false_eq_true,if_false];rw[if_pos (wz U ie)];simp only[beq_refl,if_true];unfold yH;have dZ:(if Nat.beq n 0=true then some []else r5 H p 0 (n*size))=some ao:=by grind[eq_of_beq_eq_true,length_eq_zero_iff,AA,xb,mj,nh,gE,beq_refl]
 rw[dZ];simp only[iv];have alp:aj H ae:=h.left;exact bV (show lO (ao++cL) (n+m) (2*size) H=some (aC H.next 0 (n+m) (2*size),H.push (ao++cL))from rfl) (ag _ _ (alp.push _) (xO _))
end
end Go.Ab
namespace Go.Ab
open Go Go.ChangeShapes Go.WideShapes
inductive fZ (P:Program):List TypeId->Nat->List Value->List (List Value)->Prop
 | nil {N:Nat}:fZ P [] N [] []
 | bool {t:TypeId} {cR:List TypeId} {N:Nat} {c:List Value} {b:List (List Value)} (v:Bool):P.underlying t=some .bool->fZ P cR N c b->fZ P (t::cR) N (.bool v::c) b
 | int {t:TypeId} {cR:List TypeId} {N:Nat} {c:List Value} {b:List (List Value)} {k:IntKind} (v:Int):P.underlying t=some (.int k)->(Lit.int k v).wf=true->fZ P cR N c b->fZ P (t::cR) N (.int k v::c) b
 | bl {t:TypeId} {cR:List TypeId} {N:Nat} {c:List Value} {b:List (List Value)} (v:ByteArray):P.underlying t=some .string->v.size<=maxLen->fZ P cR N c b->fZ P (t::cR) N (.string v::c) b
 | kP {t e:TypeId} {cR:List TypeId} {N:Nat} {c:List Value} {b:List (List Value)}:P.underlying t=some (.slice e)->fZ P cR N c b->fZ P (t::cR) N (.slice none 0 0::c) b
 | aC {t e:TypeId} {cR:List TypeId} {N:Nat} {c cells:List Value} {b bs:List (List Value)} (len:Nat):P.underlying t=some (.slice e)->len<=maxLen->cells.length=len*P.cellsOf e->fZ P (List.replicate len e) (N+1) cells bs->fZ P cR (N+1+bs.length) c b->
   fZ P (t::cR) N (.slice (some ⟨N,0,none⟩) len (2*P.cellsOf e)::c) (cells::(bs++b))
 | struct {t:TypeId} {bj:Array Field} {cR:List TypeId} {N:Nat} {c:List Value} {b:List (List Value)}:P.underlying t=some (.struct bj)->fZ P (bj.toList.map (·.type)++cR) N c b->fZ P (t::cR) N c b
 | array {t e:TypeId} {n:Nat} {cR:List TypeId} {N:Nat} {c:List Value} {b:List (List Value)}:P.underlying t=some (.array n e)->fZ P (List.replicate n e++cR) N c b->fZ P (t::cR) N c b
theorem fZ.append{P:Program}{cR FY:List TypeId}{N:Nat}{c b5:List Value}{b c0:List (List Value)}(h:fZ P cR N c b)(a6:fZ P FY (N+b.length) b5 c0):fZ P (cR++FY) N (c++b5) (b++c0):=by
 induction h with
 | nil=>exact a6
 | bool v bc _ a7=>exact .bool v bc (a7 a6)
 | int v bc aM _ a7=>exact .int v bc aM (a7 a6)
 | bl v bc aM _ a7=>exact .bl v bc aM (a7 a6)
 | kP bc _ a7=>exact .kP bc (a7 a6)
 | @aC t e cR N c cells b bs len bc hm aE h1 h2 _ a7=>
  have bb:(cells::(bs++b))++c0=cells::(bs++(b++c0)):=by simp
  rw[bb];refine .aC len bc hm aE h1 (a7 ?_)
  grind
 | struct bc _ a7=>refine .struct bc ?_;simp_all
 | array bc _ a7=>refine .array bc ?_;simp_all
def Jz(P:Program):List Field->Nat->Bool
 | [],_=>true
 | f::bj,o=>Nat.beq f.offset o&&Jz P bj (o+P.cellsOf f.type)
def Dr(P:Program):List Field->Nat
 | []=>0
 | f::bj=>P.cellsOf f.type+Dr P bj
def xP(P:Program):Nat->TypeId->Bool
 | 0,_=>false
 | d+1,t=>match P.underlying t with
  | some .bool=>Nat.beq (P.cellsOf t) 1
  | some (.int _)=>Nat.beq (P.cellsOf t) 1
  | some .string=>Nat.beq (P.cellsOf t) 1
  | some (.slice e)=>Nat.beq (P.cellsOf t) 1&&(Nat.blt 0 (P.cellsOf e)&&xP P d e)
  | some (.struct bj)=>Jz P bj.toList 0&&(Nat.beq (Dr P bj.toList) (P.cellsOf t)&&bj.toList.all fun f=>xP P d f.type)
  | some (.array n e)=>Nat.beq (n*P.cellsOf e) (P.cellsOf t)&&xP P d e
  | _=>false
def mv(N:Nat)(b8:List (Nat×Nat×Nat)):cO:=fun id=>if N<=id then b8[id-N]? else none
theorem FZ{N:Nat}{lU ns:List (Nat×Nat×Nat)}:∀id x,mv N lU id=some x->mv N (lU++ns) id=some x:=by
 intro id x h;unfold mv at h⊢
 grind
theorem OC{N:Nat}{lU ns:List (Nat×Nat×Nat)}:∀id x,mv (N+lU.length) ns id=some x->mv N (lU++ns) id=some x:=by
 intro id x h;unfold mv at h⊢
 grind
def Ds(σ:cO)(w:World)(b:List Value)(x:Nat×Nat×Nat):Prop:=
 b≠[]->∃db cW ec,w.heap[x.1]?=some (.cells db cW ec)/\db.size=x.2.2/\x.2.1+b.length<=x.2.2/\bH σ b ((db.toList.drop x.2.1).take b.length)
structure td (P:Program) (w:World) (cR:List TypeId) (N:Nat) (ao as:List Value) (bs:List (List Value)) (b8:List (Nat×Nat×Nat)):Prop where
 Bg:fZ P cR N as bs
 len:b8.length=bs.length
 zk:bH (mv N b8) as ao
 kj:∀(i:Nat) (b:List Value) (x:Nat×Nat×Nat),bs[i]?=some b->b8[i]?=some x->Ds (mv N b8) w b x
theorem Ds.mono{σ τ:cO}{w:World}{b:List Value}{x:Nat×Nat×Nat}(hm:∀id x,σ id=some x->τ id=some x)(h:Ds σ w b x):Ds τ w b x:=fun an=>by obtain⟨db,cW,ec,h1,h2,aB,bk⟩:=h an;exact⟨db,cW,ec,h1,h2,aB,bk.mono hm⟩
section
variable{H:Type}{enc:TypeId×Value->H}{P:Program}{w:World}
theorem td.none{N:Nat}{w:World}:td P w [] N [] [] [] []:=⟨.nil,rfl,.nil,fun i b x h=>by simp at h⟩
theorem td.append{cR FY:List TypeId}{N:Nat}{ao bu as Bh:List Value}{bs ug:List (List Value)}{b8 sw:List (Nat×Nat×Nat)}(h:td P w cR N ao as bs b8)(a6:td P w FY (N+bs.length) bu Bh ug sw):
  td P w (cR++FY) N (ao++bu) (as++Bh) (bs++ug) (b8++sw):=by
 have U:∀id x,mv (N+bs.length) sw id=some x->mv N (b8++sw) id=some x:=by rw[<- h.len];exact OC
 refine⟨h.Bg.append a6.Bg,by rw[length_append,length_append,h.len,a6.len],(h.zk.mono FZ).append (a6.zk.mono U),fun i b x an al=>?_⟩;by_cases aq:i<bs.length;rw[List.getElem?_append_left aq]at an;rw[List.getElem?_append_left (by rw[h.len];exact aq)]at al;exact(h.kj i b x an al).mono FZ;rw[List.getElem?_append_right (by omega)]at an;rw[List.getElem?_append_right (by rw[h.len];omega),h.len]at al;exact(a6.kj _ b x an al).mono U
abbrev o1(enc:TypeId×Value->H)(P:Program)(w:World)(t:TypeId)(ao:List Value):Prop:=∃l5 x,DataW.trod enc P w 0 (fun _=>true) true l5 t ao=some x
theorem OD{e:TypeId}{cU:Nat}(qN:∀ao,o1 enc P w e ao->ao.length=cU->∀N,∃as bs b8,td P w [e] N ao as bs b8):∀(n:Nat) (L:List Value),L.length=n*cU->(∀i,i<n->o1 enc P w e ((L.drop (i*cU)).take cU))->∀N,∃as bs b8,td P w (List.replicate n e) N L as bs b8
 | 0,L,aE,_,N=>by have:L=[]:=length_eq_zero_iff.1 (by omega);subst this;exact⟨_,_,_,td.none⟩
 | n+1,L,aE,h,N=>by
  have vh:cU<=L.length:=by grind
  obtain⟨as,bs,b8,h1⟩:=qN (L.take cU) (by have:=h 0 (by omega);simp_all) (by simp_all) N;obtain⟨Bh,ug,sw,h2⟩:=OD qN n (L.drop cU) (by grind) (fun i aq=>by grind[drop_drop]) (N+bs.length);have:=h1.append h2
  grind[take_append_drop]
theorem Wj:∀(bj:List Field) (o:Nat) (ao:List Value),Jz P bj o=true->ao.length=o+Dr P bj->(∀f∈bj,∀ds,o1 enc P w f.type ds->ds.length=P.cellsOf f.type->∀N,∃as bs b8,td P w [f.type] N ds as bs b8)->
  (∀f∈bj,o1 enc P w f.type ((ao.drop f.offset).take (P.cellsOf f.type)))->∀N,∃as bs b8,td P w (bj.map (·.type)) N (ao.drop o) as bs b8
 | [],o,ao,_,aE,_,_,N=>by have:ao.drop o=[]:=drop_eq_nil_of_le (by simp_all[Dr]);rw[this];exact⟨_,_,_,td.none⟩
 | f::bj,o,ao,aD,aE,qN,h,N=>by
  have aD:(Nat.beq f.offset o&&Jz P bj (o+P.cellsOf f.type))=true:=aD;rw[Bool.and_eq_true]at aD;have bC:=eq_of_beq_eq_true aD.1;have aw:Dr P (f::bj)=P.cellsOf f.type+Dr P bj:=rfl;rw[aw]at aE;have aN:=h f (by simp);rw[bC]at aN;obtain⟨as,bs,b8,h1⟩:=qN f (by simp) _ aN (by simp_all) N;obtain⟨Bh,ug,sw,h2⟩:=Wj bj (o+P.cellsOf f.type) ao aD.2 (by omega) (fun g hg=>qN g (by simp[hg])) (fun g hg=>h g (by simp[hg])) (N+bs.length);have:=h1.append h2
  grind[drop_drop,take_append_drop]
theorem alq{a:Addr}{v:Value}{w:World}(h:w.cell? a=some v):∃db cW ec,w.heap[a.block]?=some (.cells db cW ec)/\a.spot=none/\db[a.off]?=some v:=by
 unfold World.cell? at h;split at h
 simp_all
 cases h
theorem JA:∀(d:Nat) (t:TypeId) (ao:List Value),xP P d t=true->o1 enc P w t ao->ao.length=P.cellsOf t->∀N,∃as bs b8,td P w [t] N ao as bs b8
 | 0,_,_,aw,_,_,_=>by cases aw
 | d+1,t,ao,aw,⟨l5,x,h⟩,hlen,N=>by
  have alr:=aw;unfold xP at aw;split at aw<;>try (cases aw;done)
  ·rename_i bc;obtain⟨b,rfl,_⟩:=DataW.trod_bool bc h;exact⟨_,_,[],⟨.bool b bc .nil,rfl,.bool b .nil,fun i b x an=>by simp at an⟩⟩
  ·rename_i k bc;obtain⟨n,rfl,_,aM⟩:=DataW.trod_int bc h;exact⟨_,_,[],⟨.int n bc aM .nil,rfl,.int k n .nil,fun i b x an=>by simp at an⟩⟩
  ·rename_i bc;obtain⟨s,rfl,_,aM⟩:=DataW.trod_string bc h;exact⟨_,_,[],⟨.bl s bc aM .nil,rfl,.string s .nil,fun i b x an=>by simp at an⟩⟩
  ·rename_i e bc;simp only[Bool.and_eq_true,p7,decide_eq_true_eq]at aw;obtain⟨_,Bi,Wk⟩:=aw;rcases Go.Deep.open_slice bc h with⟨rfl,_⟩|⟨a,len,cap,m,n,D,hK,rfl,an,aE,hm,NB,_,Wl⟩
   ·exact⟨_,_,[],⟨.kP bc .nil,rfl,.kP .nil,fun i b x an=>by simp at an⟩⟩
   ·simp only[if_true]at NB;subst NB;by_cases IH:m=0
    ·-- nothing there at all
     subst IH;have tY:len=0:=by omega
     subst tY;refine⟨_,_,[(0,0,0)],⟨.aC 0 bc (zero_le _) (by simp) .nil .nil,rfl,?_,fun i b x an al=>?_⟩⟩
     ·exact .nK N 0 0 (P.cellsOf e) 0 0 0 0 a (by simp[mv]) Bi (Nat.le_refl _) (.inr ⟨rfl,rfl⟩) .nil
     ·cases i with
      | zero=>simp at an;subst an;intro da;simp_all
      | succ i=>simp at an
    ·-- the block
     have E8:∀i,i<m->∃bu,w.cells? 0 (a.add (i*P.cellsOf e)) (P.cellsOf e)=some bu/\o1 enc P w e bu:=fun i aq=>by grind
     obtain⟨als,alu,_⟩:=E8 0 (by omega);obtain⟨_,aC2,alv⟩:=World.cells?_some alu;have JB:=alv 0 Bi;obtain⟨v0,alw⟩:∃v,als[0]?=some v:=⟨_,List.getElem?_eq_getElem (by omega)⟩;rw[alw]at JB;obtain⟨db,cW,ec,hh,pI,_⟩:=alq JB;have ic:((a.add (0*P.cellsOf e)).add 0)=a:=by simp[Addr.add]
     rw[ic]at hh pI;have nL:∀i j,i<m->j<P.cellsOf e->∃bu,w.cells? 0 (a.add (i*P.cellsOf e)) (P.cellsOf e)=some bu/\bu[j]?=db[a.off+(i*P.cellsOf e+j)]?:=by
      intro i j aq bh;obtain⟨bu,h1,_⟩:=E8 i aq;obtain⟨_,h2,aB⟩:=World.cells?_some h1;refine⟨bu,h1,?_⟩;rw[<- aB j bh,Go.Deep.add_add];unfold World.cell?;have py:(a.add (i*P.cellsOf e+j)).block=a.block:=by grind[Addr.add]
      have N0:(a.add (i*P.cellsOf e+j)).off=a.off+(i*P.cellsOf e+j):=by grind[Addr.add]
      have ni:(a.add (i*P.cellsOf e+j)).spot=none:=by grind[Addr.add]
      simp_all
     have CM:a.off+m*P.cellsOf e<=db.size:=by
      obtain⟨bu,h1,h2⟩:=nL (m-1) (P.cellsOf e-1) (by omega) (by omega);obtain⟨_,aB,_⟩:=World.cells?_some h1;rw[List.getElem?_eq_getElem (by omega)]at h2;have:=(Array.getElem?_eq_some_iff.1 h2.symm).1;have bb:(m-1)*P.cellsOf e+P.cellsOf e=m*P.cellsOf e:=by rw[<- succ_mul];grind
      omega
     have lg:=mul_le_mul_right (P.cellsOf e) aE
     let L:=(db.toList.drop a.off).take (len*P.cellsOf e)
     have hL:L.length=len*P.cellsOf e:=by grind
     have alx:∀i,i<len->o1 enc P w e ((L.drop (i*P.cellsOf e)).take (P.cellsOf e)):=by
      intro i aq;obtain⟨bu,h1,h2⟩:=E8 i (by omega);obtain⟨_,aB,_⟩:=World.cells?_some h1;have NO:(i+1)*P.cellsOf e<=len*P.cellsOf e:=mul_le_mul_right _ aq;rw[succ_mul]at NO;have:(L.drop (i*P.cellsOf e)).take (P.cellsOf e)=bu:=by
       apply ext_getElem?;intro j;rw[List.getElem?_take];split
       ·rename_i bh;obtain⟨Wm,b7,ca⟩:=nL i j (by omega) bh
        grind
       simp_all
      simp_all
     obtain⟨as,bs,b8,bC⟩:=OD (fun ds U vh N=>JA d e ds Wk U vh N) len L hL alx (N+1);have Wn:as.length=len*P.cellsOf e:=by rw[bC.zk.length,hL]
     have Wo:∀id x,mv (N+1) b8 id=some x->mv N ((a.block,a.off,db.size)::b8) id=some x:=fun id x al=>OC (lU:=[(a.block,a.off,db.size)]) id x al
     refine⟨_,_,(a.block,a.off,db.size)::b8,⟨.aC len bc (by omega) Wn bC.Bg .nil,by simp[bC.len],?_,fun i b x an al=>?_⟩⟩
     ·refine .nK N 0 len (P.cellsOf e) m a.block a.off db.size a (by simp[mv]) Bi aE (.inl ⟨?_,by omega⟩) .nil;obtain⟨eS,of,ct⟩:=a
      simp_all
     ·cases i with
      | zero=>simp at an al;subst an;subst al;intro _;refine⟨db,cW,ec,hh,rfl,by grind,?_⟩;rw[Wn];exact bC.zk.mono Wo
      | succ i=>simp at an al;exact(bC.kj i b x an al).mono Wo
  ·rename_i bj bc;rw[Bool.and_eq_true,Bool.and_eq_true,all_eq_true]at aw;obtain⟨h1,h2,aB⟩:=aw;have h2:=eq_of_beq_eq_true h2;obtain⟨ak,n,_,_,_,OE,hf⟩:=DataW.trod_struct bc h;obtain⟨as,bs,b8,bC⟩:=Wj (enc:=enc) (w:=w) bj.toList 0 ao h1 (by omega) (fun f sk ds U vh N=>JA d f.type ds (aB f sk) U vh N) (fun f sk=>by grind[mem_iff_getElem?]) N;rw[drop_zero]at bC;exact⟨as,bs,b8,⟨.struct bc (by rw[append_nil];exact bC.Bg),bC.len,bC.zk,bC.kj⟩⟩
  ·rename_i n e bc;rw[Bool.and_eq_true]at aw;have h1:=eq_of_beq_eq_true aw.1;obtain⟨ak,m,_,_,_,OE,hf⟩:=DataW.trod_array bc h;obtain⟨as,bs,b8,bC⟩:=OD (enc:=enc) (w:=w) (fun ds U vh N=>JA d e ds aw.2 U vh N) n ao (by omega) (fun i aq=>by grind) N;exact⟨as,bs,b8,⟨.array bc (by rw[append_nil];exact bC.Bg),bC.len,bC.zk,bC.kj⟩⟩
end
end Go.Ab
namespace Go.Ab
open Go Go.ChangeShapes Go.WideShapes Go.RowKit
noncomputable def sx(H:ar)(bs:List (List Value)):ar:=match bs with
 | []=>H
 | b::r=>sx ⟨H.t.set H.next (match b with|[]=>none|_::_=>some ⟨b,false⟩),Nat.succ H.next,H.dB,H.dI⟩ r
inductive qV (P:Program):List TypeId->Nat->List Value->List (List Value)->Prop
 | nil {N:Nat}:qV P [] N [] []
 | e5 {t:TypeId} {cR:List TypeId} {N:Nat} {v:Value} {vs:List Value} {b c0:List (List Value)}:(∀bj,P.underlying t≠some (.struct bj))->(∀n e,P.underlying t≠some (.array n e))->fZ P [t] N [v] b->qV P cR (N+b.length) vs c0->qV P (t::cR) N (v::vs) (b++c0)
 | agg {t:TypeId} {cR:List TypeId} {N:Nat} {ao vs:List Value} {b c0:List (List Value)}:((∃bj,P.underlying t=some (.struct bj))\/∃n e,P.underlying t=some (.array n e))->fZ P [t] N ao b->qV P cR (N+b.length) vs c0->qV P (t::cR) N (.agg ao.toArray::vs) (b++c0)
section
variable{H:Type}{enc:TypeId×Value->H}{P:Program}{W:World}
theorem aly{d:Nat}{base:Nat}{r:Reach}{t:TypeId}{v:Value}(aw:xP P d t=true)(h:Value.okWide P W r base t v):
  v.cells.toList.length=P.cellsOf t/\(((∀bj,P.underlying t≠some (.struct bj))/\(∀n e,P.underlying t≠some (.array n e))/\v.cells.toList=[v])\/(((∃bj,P.underlying t=some (.struct bj))\/∃n e,P.underlying t=some (.array n e))/\∃ao,v=.agg ao)):=by
 have aC3:∀ {u:TypeDesc},P.underlying t=some u->(∀bj,u≠.struct bj)->(∀n e,u≠.array n e)->P.cellsOf t=1->(u=.bool\/u=.string\/(∃k,u=.int k)\/∃e,u=.slice e)->v.cells.toList.length=P.cellsOf t/\(((∀bj,P.underlying t≠some (.struct bj))/\(∀n e,P.underlying t≠some (.array n e))/\v.cells.toList=[v])\/(((∃bj,P.underlying t=some (.struct bj))\/∃n e,P.underlying t=some (.array n e))/\∃ao,v=.agg ao)):=by
  intro u bc h1 h2 aD ag;have e:v.cells.toList=[v]:=by unfold Value.okWide at h;rw[bc]at h;rcases ag with rfl|rfl|⟨k,rfl⟩|⟨e,rfl⟩<;>simp only at h<;>unfold Cell.okWide at h<;>rw[bc]at h<;>simp only at h<;>unfold Cell.ok at h<;>rw[bc]at h<;>cases v<;>first|rfl|exact absurd h (by simp)
  simp_all
 cases d with
 | zero=>cases aw
 | succ d=>
  unfold xP at aw;split at aw<;>try (cases aw;done)
  ·simp_all
  ·simp_all
  ·simp_all
  ·simp_all
  ·rename_i bj bc;unfold Value.okWide at h;rw[bc]at h;obtain⟨ao,rfl,h1,_⟩:=h;exact⟨h1,.inr ⟨.inl ⟨_,bc⟩,ao,rfl⟩⟩
  ·rename_i n e bc;unfold Value.okWide at h;rw[bc]at h;obtain⟨ao,rfl,h1,_⟩:=h;exact⟨h1,.inr ⟨.inr ⟨_,_,bc⟩,ao,rfl⟩⟩
theorem Wp{d:Nat}{base:Nat}{r:Reach}:∀(cR:List TypeId) (vs:List Value) (ds:List (DataW H)) (p:List MemPlace),(∀t∈cR,xP P d t=true)->(∀(j:Nat) (t:TypeId) (v:Value),cR[j]?=some t->vs[j]?=some v->Value.okWide P W r base t v)->
  DataW.TrodAll enc P W 0 (fun _=>true) true cR vs ds p->∀N,∃as bs b8,qV P cR N as bs/\b8.length=bs.length/\bH (mv N b8) as vs/\∀(i:Nat) (b:List Value) (x:Nat×Nat×Nat),bs[i]?=some b->b8[i]?=some x->Ds (mv N b8) W b x
 | [],[],[],p,_,_,_,N=>⟨[],[],[],.nil,rfl,.nil,fun i b x h=>by simp at h⟩
 | [],[],_::_,p,_,_,h,N=>h.elim
 | [],_::_,_,p,_,_,h,N=>h.elim
 | _::_,[],_,p,_,_,h,N=>h.elim
 | _::_,_::_,[],p,_,_,h,N=>h.elim
 | t::cR,v::vs,x::ds,p,aw,eL,h,N=>by
  have aN:=h;have hv:=eL 0 t v rfl rfl;have Wq:=aw t (by simp);obtain⟨cC,bO,⟨l5,hf⟩,U,_⟩:=aN;have lT:o1 enc P W t v.cells.toList:=⟨l5,_,hf⟩;obtain⟨hlen,jq⟩:=aly Wq hv;obtain⟨as,bs,b8,h1⟩:=JA d t _ Wq lT hlen N;obtain⟨Bh,ug,sw,h2,aB,bk,cj⟩:=Wp cR vs ds bO (fun t ht=>aw t (by simp[ht])) (fun j t v ht hv=>eL (j+1) t v (by simp_all) (by simp_all)) U (N+bs.length);have ie:∀id x,mv (N+bs.length) sw id=some x->mv N (b8++sw) id=some x:=by rw[<- h1.len];exact OC
  have mm:∀(i:Nat) (b:List Value) (x:Nat×Nat×Nat),(bs++ug)[i]?=some b->(b8++sw)[i]?=some x->Ds (mv N (b8++sw)) W b x:=by intro i b x an al;by_cases aq:i<bs.length;rw[List.getElem?_append_left aq]at an;rw[List.getElem?_append_left (by rw[h1.len];exact aq)]at al;exact(h1.kj i b x an al).mono FZ;rw[List.getElem?_append_right (by omega)]at an;rw[List.getElem?_append_right (by rw[h1.len];omega),h1.len]at al;exact(cj _ b x an al).mono ie
  have JC:(b8++sw).length=(bs++ug).length:=by rw[length_append,length_append,h1.len,aB]
  rcases jq with⟨CK,Dl,aD⟩|⟨aR,ao,rfl⟩
  rw[aD]at h1;have jh:=h1.zk;obtain⟨a,rfl⟩:∃a,as=[a]:=length_eq_one_iff.1 (by rw[jh.length];rfl);exact⟨a::Bh,bs++ug,b8++sw,.e5 CK Dl h1.Bg h2,JC,(jh.mono FZ).cons (bk.mono ie),mm⟩;refine⟨.agg as.toArray::Bh,bs++ug,b8++sw,.agg aR h1.Bg h2,JC,.agg _ _ ?_ (bk.mono ie),mm⟩;exact h1.zk.mono FZ
end
theorem JD:∀n,(oZ n).t.rJ n
 | 0=>fun m hm=>absurd hm (not_lt_zero _)
 | n+1=>fun m hm=>by
  have e:(oZ (n+1)).t=(oZ n).t.set n none:=rfl;rw[e];by_cases h:m=n
  simp_all[Tr.zg,JD]
  exact Tr.zf _ _ _ _ (JD n m (by omega))
noncomputable def Dt(b:List Value):Option ay:=match b with|[]=>none|_::_=>some ⟨b,false⟩
theorem alz(H:ar)(b:List Value)(r:List (List Value)):sx H (b::r)=sx ⟨H.t.set H.next (Dt b),Nat.succ H.next,H.dB,H.dI⟩ r:=rfl
structure alA (H:ar) (bs:List (List Value)) (aa:ar):Prop where
 next:aa.next=H.next+bs.length
 dB:aa.dB=H.dB
 dI:aa.dI=H.dI
 qU:H.t.rJ H.next->aa.t.rJ aa.next
 old:∀i,i<H.next->aa.get i=H.get i
 cL:H.t.rJ H.next->∀j b,bs[j]?=some b->aa.get (H.next+j)=Dt b
 aS:∀i b,aa.get i=some b->H.get i=some b\/∃j c,i=H.next+j/\bs[j]?=some c/\Dt c=some b
theorem OF:∀(bs:List (List Value)) (H:ar),alA H bs (sx H bs)
 | [],H=>⟨rfl,rfl,rfl,fun h=>h,fun _ _=>rfl,fun _ j b h=>by simp at h,fun i b h=>.inl h⟩
 | b::r,H=>by
  have a7:=OF r ⟨H.t.set H.next (Dt b),Nat.succ H.next,H.dB,H.dI⟩;rw[alz];have JE:H.t.rJ H.next->(H.t.set H.next (Dt b)).rJ (Nat.succ H.next):=fun bc m hm=>by by_cases h:m=H.next;subst h;exact(Tr.zg _ _ _ bc).2;exact Tr.zf _ _ _ _ (bc m (by omega))
  refine⟨by rw[a7.next];simp only[length_cons];omega,a7.dB,a7.dI,fun bc=>a7.qU (JE bc),fun i aq=>?_,fun bc j c bh=>?_,fun i x al=>?_⟩;rw[a7.old i (by show i<Nat.succ H.next;omega)];exact Tr.ly _ _ _ _ (by omega);cases j with
  | zero=>simp at bh;subst bh;rw[a7.old (H.next+0) (by show _<Nat.succ H.next;omega)];exact(Tr.zg _ _ _ bc).1
  | succ j=>have:=a7.cL (JE bc) j c (by simpa using bh);rw[show H.next+(j+1)=Nat.succ H.next+j by omega];exact this
  rcases a7.aS i x al with h|⟨j,c,h1,h2,aB⟩
  rcases Tr.CD _ _ _ _ _ h with⟨bb,bt⟩|⟨_,bt⟩
  exact .inr ⟨0,b,bb,by simp,bt⟩;exact .inl bt;exact .inr ⟨j+1,c,by rw[h1];show Nat.succ H.next+j=_;omega,by simpa using h2,aB⟩
def nt(N:Nat):List (List Value)->List (Nat×ay)
 | []=>[]
 | b::r=>(N,⟨b,false⟩)::nt (N+1) r
theorem JF:∀(bs:List (List Value)) (N:Nat) (x:Nat×ay),x∈nt N bs->∃(j:Nat) (b:List Value),bs[j]?=some b/\x=(N+j,⟨b,false⟩)
 | [],N,x,h=>by cases h
 | b::r,N,x,h=>by
  rcases mem_cons.1 h with rfl|h
  exact⟨0,b,by simp,rfl⟩;obtain⟨j,c,h1,h2⟩:=JF r (N+1) x h;exact⟨j+1,c,by simpa using h1,by rw[h2];congr 1;omega⟩
theorem Wr:∀(bs:List (List Value)) (N:Nat),((nt N bs).map (·.1)).Nodup
 | [],N=>.nil
 | b::r,N=>by show(N::(nt (N+1) r).map (·.1)).Nodup;refine nodup_cons.2 ⟨fun h=>?_,Wr r (N+1)⟩;obtain⟨x,al,e⟩:=mem_map.1 h;obtain⟨j,c,_,rfl⟩:=JF r (N+1) x al;simp at e;omega
theorem aC4(G:Nat)(bs:List (List Value)):aj (sx (oZ G) bs) (nt G bs):=by
 have h:=OF bs (oZ G);refine⟨by rw[h.dB];rfl,h.qU (JD G),Wr bs G,fun x al=>?_,fun x al aM=>?_,h.dI,fun x al=>(by cases al)⟩;obtain⟨j,b,h1,rfl⟩:=JF bs G x al;rw[h.next];have:=(List.getElem?_eq_some_iff.1 h1).1;show G+j<G+bs.length;omega;obtain⟨j,b,h1,rfl⟩:=JF bs G x al;have:(sx (oZ G) bs).get (G+j)=Dt b:=h.cL (JD G) j b h1;rcases aM with aM|aM
 cases aM;show(sx (oZ G) bs).get (G+j)=_;rw[this];cases b with
 | nil=>simp_all
 | cons _ _=>rfl
section
variable{H:Type}{enc:TypeId×Value->H}{P:Program}{W:World}[dX]
theorem aC5(dA:Jb P=true)(bC:@FE (np W) _ P){f:FuncId}{cR:List TypeId}{d:Nat}(aw:∀t∈cR,xP P d t=true)
  (ag:∀as bs,qV P cR P.globals.size as bs->az P f as (sx (oZ P.globals.size) bs) fun v _=>v=.bool true)
  {base:Nat} {r:Reach} {args:Array Value} {ds:List (DataW H)} {p:List MemPlace} (eL:∀(j:Nat) (t:TypeId) (v:Value),cR[j]?=some t->args.toList[j]?=some v->Value.okWide P W r base t v)
  (hA:DataW.TrodAll enc P W 0 (fun _=>true) true cR args.toList ds p):Calls P f args W fun e aV=>e=.returned (.bool true)/\RowKit.Below W.heap.size W aV:=by
 obtain⟨as,bs,b8,h1,h2,aB,bk⟩:=Wp cR args.toList ds p aw eL hA P.globals.size;obtain⟨n,cJ,v,aa,xQ,rfl⟩:=ag as bs h1;have aE:=OF bs (oZ P.globals.size)
 let σ:cO:=fun id=>if id<P.globals.size then some (id,0,0)else mv P.globals.size b8 id
 have dU:∀id x,mv P.globals.size b8 id=some x->σ id=some x:=fun id x al=>by
  show(if _ then _ else _)=_
  simp_all[if_neg,mv]
 have nL:∀id o,(sx (oZ P.globals.size) bs).cI id=some o->∃(j:Nat) (b:List Value),id=P.globals.size+j/\bs[j]?=some b/\b≠[]/\o=.cells ⟨b,false⟩:=by
  intro id o eW;unfold ar.cI at eW;rw[aE.dI]at eW;cases hg:(sx (oZ P.globals.size) bs).get id with
  | none=>rw[hg]at eW;cases eW
  | some x=>
   rw[hg]at eW;cases eW;rcases aE.aS id x hg with h|⟨j,c,bb,bt,dZ⟩
   simp_all[Vx]
   cases c with
   | nil=>cases dZ
   | cons y z=>cases dZ;exact⟨j,_,bb,bt,by simp,rfl⟩
 letI:=np W
 have ek:gS P W.heap.size σ (sx (oZ P.globals.size) bs).cI (sx (oZ P.globals.size) bs) W:=by
  refine⟨⟨fun id b an=>?_,fun id b an aM=>?_,fun i j ib gf _ aq _ aM=>?_⟩,fun id b an=>an,Nat.le_refl _,fun g hg=>⟨0,by grind⟩,⟨fun i aq=>?_,fun i aq=>?_⟩,by rw[aE.dB];exact zero_le _,fun _ _=>rfl,Nat.le_refl _⟩;obtain⟨j,c,rfl,bt,dZ,rfl⟩:=nL id b an;have dy:j<b8.length:=by grind
  obtain⟨x,al⟩:∃x,b8[j]?=some x:=⟨_,List.getElem?_eq_getElem dy⟩;obtain⟨db,cW,ec,bO,q2,dz,eM⟩:=bk j c x bt al dZ;obtain⟨rL,F0,JG⟩:=x;refine⟨rL,F0,JG,db,cW,ec,dU _ _ ?_,bO,q2,dz,eM.mono dU,fun h=>by cases h⟩
  simp_all[mv]
  obtain⟨j,c,_,_,_,rfl⟩:=nL id b an;cases aM;obtain⟨j,c,_,_,_,rfl⟩:=nL i ib aq;cases aM;cases bC:(sx (oZ P.globals.size) bs).cI i with
  | none=>simp_all
  | some o=>obtain⟨j,c,rfl,bt,_,_⟩:=nL i o bC;have:=(List.getElem?_eq_some_iff.1 bt).1;rw[aE.next];show P.globals.size+j<P.globals.size+bs.length;omega
  rw[aE.dI]at aq;exact absurd rfl aq
 have cH:gq σ (sx (oZ P.globals.size) bs).next aa.next:=by
  intro i h1 _;rw[aE.next]at h1;have h1:P.globals.size+bs.length<=i:=h1;show(if i<P.globals.size then _ else _)=_;rw[if_neg (by omega)];unfold mv
  grind
 have aD:=((akz (Vw dA) bC n).call f as _ cJ (.bool true) aa xQ W.heap.size σ _ W args ek cH (aB.mono dU)).2;refine(CallsIn.calls aD (ai1 none)).mono ?_;rintro e aV ⟨aH,τ,a6,rfl,hv,aw⟩;cases hv;refine⟨rfl,aw.gO.os,aw.gO.tape,aw.gO.output,aw.gO.size,fun k ag=>aw.gO.ld k ag ?_⟩;rintro⟨id,b,_,_,an,aM,_⟩;obtain⟨j,c,_,_,_,rfl⟩:=nL id b an;cases aM
omit [dX] in
theorem alB{base:Nat}{ct:Nat->Bool}{aO:Bool}:∀ {cR:List TypeId} {vs:List Value} {ds:List (DataW H)} {p:List MemPlace},DataW.TrodAll enc P W base ct aO cR vs ds p->ds.length=cR.length
 | [],[],[],_,_=>rfl
 | [],[],_::_,_,h=>h.elim
 | [],_::_,_,_,h=>h.elim
 | _::_,[],_,_,h=>h.elim
 | _::_,_::_,[],_,h=>h.elim
 | _::_,_::_,_::_,_,⟨_,_,_,h,_⟩=>by simp[alB h]
omit [dX] in
theorem Ws(aE:laidOutB P=true){W':World}(an:RowKit.Below W.heap.size W W'):∀(cR:List TypeId) (vs:List Value) (ds:List (DataW H)) (p:List MemPlace),(∀t∈cR,P.readableRec t=true/\t<P.types.size)->
  DataW.TrodAll enc P W 0 (fun _=>true) true cR vs ds p->(∀x∈p,x.block<W.heap.size)->DataW.TrodAll enc P W' 0 (fun b=>decide (b<W.heap.size)) true cR vs ds p
 | [],[],[],p,_,h,_=>h
 | [],[],_::_,p,_,h,_=>h.elim
 | [],_::_,_,p,_,h,_=>h.elim
 | _::_,[],_,p,_,h,_=>h.elim
 | _::_,_::_,[],p,_,h,_=>h.elim
 | t::cR,v::vs,d::ds,p,U,⟨cC,bO,h1,h2,e⟩,dy=>by subst e;obtain⟨r1,r2⟩:=U t (by simp);exact⟨cC,bO,RowKit.Below.trod aE r1 r2 h1 an fun x al=>dy x (by simp[al]),Ws aE an cR vs ds bO (fun t ht=>U t (by simp[ht])) h2 fun x al=>dy x (by simp[al]),rfl⟩
omit [dX] in
theorem aC6{f:Func}{s:ChangeSpec}{A0 alC alD:Bool}{W':World}{args:Array Value}{v:Value}{ds gs:List (DataW H)}{before:List MemPlace}(aE:laidOutB P=true)
  (lT:∀t∈f.params.toList,P.readableRec t=true/\t<P.types.size) (Wt:s.vars=[]) (hW:DataW.Whole enc P f.params.toList s.vars A0 W args.toList ds gs before) (an:RowKit.Below W.heap.size W W')
  (rC:∀(b:Nat) (ct:Nat->Bool) (aO:Bool),DataW.TrodAll enc P W' b ct aO f.resultTypes.toList (v.resultList f.resultTypes.size) (s.fn H (ds++gs)).results [])
  (A3:(s.fn H (ds++gs)).args=ds) (alE:(s.fn H (ds++gs)).vars=[]):s.post enc P f A0 alC alD false W args v W':=by
 have dy:∀x∈before,x.block<W.heap.size:=fun x al=>hW.lt x al
 have alF:=hW;obtain⟨p,q,h1,h2,rfl,aB,bk⟩:=hW;rw[Wt]at h2;obtain⟨rfl,rfl⟩:=trodVars_none h2;refine⟨ds,[],_,[],p,[],alF,rC _ _ _,?_,?_,an.frame _,fun h=>by cases h⟩
 simp_all[Ws]
 rw[Wt,alE];exact rfl
end
end Go.Ab
namespace Go.Ab
open Go
local instance:hD:=⟨fun _=>none,0⟩
section
variable[dX][bW]{P:Program}{H:ar}{ae:List (Nat×ay)}
omit [dX] in
theorem aA{L:List (Nat×ay)}{k:Nat}{x:Nat×ay}(h:L[k]?=some x):(ae++L)[ae.length+k]?=some x:=by grind
omit [dX] in
theorem aK{L:List (Nat×ay)}{j:Nat}{x:Nat×ay}(h:ae[j]?=some x):(ae++L)[j]?=some x:=by grind
omit [dX] in
theorem cb{L:List (Nat×ay)}{k:Nat}{x:Nat×ay}:(ae++L).set (ae.length+k) x=ae++L.set k x:=by simp_all
theorem aj.cb{L:List (Nat×ay)}{k:Nat}{x:Nat×ay}(h:aj H ((ae++L).set (ae.length+k) x)):aj H (ae++L.set k x):=by simp_all
omit [dX] in
theorem OG{m:Nat}{x:Nat×ay}(h:ae[m]?=some x):ae.set m x=ae:=by
 have aE:=(List.getElem?_eq_some_iff.1 h).1;apply ext_getElem?
 grind
def OH(ae:List (Nat×ay))(v:Value)(k:IntKind)(ak:List Int):Prop:=
 (v=bq/\ak=[])\/∃(p c j:Nat),v=aC p 0 ak.length c/\ae[j]?=some (p,(⟨ak.map (Value.int k),false⟩:ay))
theorem alG{k:IntKind}{n:Int}(h1:-9223372036854775808<=n)(h2:n<=9223372036854775807):hd .i64 (.int k n) H=some (int n,H):=by show some (Value.int .i64 (iJ .i64 n),H)=_;rw[xM h1 h2]
theorem JH{k:IntKind}{t:TypeId}{c:Bool}{a b:Int}(an:b≠0):(au P .rem t c).f (.int k a) (.int k b)=some (.int k (a.tmod b)):=by
 rw[qT a b rfl];show(match oN b 0 with|true=>none|false=>some (Value.int k (a.tmod b)))=_
 simp_all[rA]
end
theorem alH{x:Int}(h:(Lit.int .i64 x).wf=true):-9223372036854775808<=x/\x<=9223372036854775807:=by
 have h:(decide (IntKind.i64.min<=x)&&decide (x<=IntKind.i64.max))=true:=h;have bb:IntKind.i64.min=-9223372036854775808:=by decide
 simp_all
theorem alI{x:Int}(h:(Lit.int .u64 x).wf=true):0<=x/\x<=18446744073709551615:=by
 have h:(decide (IntKind.u64.min<=x)&&decide (x<=IntKind.u64.max))=true:=h;have bb:IntKind.u64.min=0:=by decide
 have bt:IntKind.u64.max=18446744073709551615:=by decide
 simp_all
theorem Wu{x:Int}(h:(Lit.int .u8 x).wf=true):0<=x/\x<=255:=by
 have h:(decide (IntKind.u8.min<=x)&&decide (x<=IntKind.u8.max))=true:=h;have bb:IntKind.u8.min=0:=by decide
 have bt:IntKind.u8.max=255:=by decide
 simp_all
section
variable{P:Program}
theorem Wv{e:TypeId}{k:IntKind}(he:P.underlying e=some (.int k)):∀(n N:Nat) (c:List Value) (b:List (List Value)),fZ P (List.replicate n e) N c b->b=[]/\∃ak:List Int,c=ak.map (Value.int k)/\ak.length=n/\∀x∈ak,(Lit.int k x).wf=true
 | 0,N,c,b,h=>by cases h;exact⟨rfl,[],rfl,rfl,by simp⟩
 | n+1,N,c,b,h=>by
  have h:fZ P (e::List.replicate n e) N c b:=h;cases h with
  | int v bc aM h2=>rw[he]at bc;cases bc;obtain⟨rfl,ak,rfl,rfl,al⟩:=Wv he n N _ _ h2;exact⟨rfl,v::ak,rfl,rfl,fun y a8=>by rcases mem_cons.1 a8 with rfl|a8;exact aM;exact al y a8⟩
  | bool v bc _=>rw[he]at bc;cases bc
  | bl v bc _ _=>rw[he]at bc;cases bc
  | kP bc _=>rw[he]at bc;cases bc
  | aC len bc _ _ _ _=>rw[he]at bc;cases bc
  | struct bc _=>rw[he]at bc;cases bc
  | array bc _=>rw[he]at bc;cases bc
theorem rM{t:TypeId}{k:IntKind}(ht:P.underlying t=some (.int k)){cR:List TypeId}{N:Nat}{c:List Value}{b:List (List Value)}(h:fZ P (t::cR) N c b):∃(x:Int) (b5:List Value),c=.int k x::b5/\(Lit.int k x).wf=true/\fZ P cR N b5 b:=by
 cases h with
 | int v bc aM h=>grind
 | bool v bc _=>simp_all
 | bl v bc _ _=>simp_all
 | kP bc _=>simp_all
 | aC len bc _ _ _ _=>simp_all
 | struct bc _=>simp_all
 | array bc _=>simp_all
theorem Ww{N:Nat}{c:List Value}{b:List (List Value)}(h:fZ P [] N c b):c=[]/\b=[]:=by cases h;simp_all
theorem JI{t e:TypeId}(ht:P.underlying t=some (.slice e)){cR:List TypeId}{N:Nat}{c:List Value}{b:List (List Value)}(h:fZ P (t::cR) N c b):
  (∃b5,c=bq::b5/\fZ P cR N b5 b)\/∃(len:Nat) (cells b5:List Value) (bs c0:List (List Value)),c=aC N 0 len (2*P.cellsOf e)::b5/\b=cells::(bs++c0)/\len<=maxLen/\cells.length=len*P.cellsOf e/\fZ P (List.replicate len e) (N+1) cells bs/\fZ P cR (N+1+bs.length) b5 c0:=by
 cases h with
 | int v bc aM h=>simp_all
 | bool v bc _=>simp_all
 | bl v bc _ _=>simp_all
 | kP bc h=>simp_all
 | aC len bc h1 h2 aB bk=>rw[ht]at bc;cases bc;grind
 | struct bc _=>simp_all
 | array bc _=>simp_all
theorem alJ{t:TypeId}{cR:List TypeId}{N:Nat}{as:List Value}{b:List (List Value)}(h:qV P (t::cR) N as b)(aR:∀bj,P.underlying t≠some (.struct bj))(Dl:∀n e,P.underlying t≠some (.array n e)):
  ∃v vs b1 b2,as=v::vs/\b=b1++b2/\fZ P [t] N [v] b1/\qV P cR (N+b1.length) vs b2:=by
 cases h with
 | e5 _ _ h1 h2=>grind
 | agg h1 _ _=>simp_all
theorem alK{t:TypeId}{cR:List TypeId}{N:Nat}{as:List Value}{b:List (List Value)}(h:qV P (t::cR) N as b)(aR:(∃bj,P.underlying t=some (.struct bj))\/∃n e,P.underlying t=some (.array n e)):
  ∃ao vs b1 b2,as=.agg ao.toArray::vs/\b=b1++b2/\fZ P [t] N ao b1/\qV P cR (N+b1.length) vs b2:=by
 cases h with
 | e5 h1 h2 _ _=>simp_all
 | agg _ h1 h2=>grind
theorem aC7{N:Nat}{as:List Value}{b:List (List Value)}(h:qV P [] N as b):as=[]/\b=[]:=by cases h;simp_all
theorem OI(bs ug:List (List Value)):∀N,nt N (bs++ug)=nt N bs++nt (N+bs.length) ug:=by
 induction bs with
 | nil=>intro N;rfl
 | cons b r a7=>grind[nt]
theorem OH.app{ae bX:List (Nat×ay)}{v:Value}{k:IntKind}{ak:List Int}(h:OH ae v k ak):OH (ae++bX) v k ak:=by
 rcases h with h|⟨p,c,j,h1,h2⟩
 exact .inl h;exact .inr ⟨p,c,j,h1,aK h2⟩
def OJ(ae:List (Nat×ay))(v:Value)(ak:List (Int×Int)):Prop:=
 (v=bq/\ak=[])\/∃(p c j:Nat),v=aC p 0 ak.length c/\ae[j]?=some (p,(⟨ak.flatMap fun a=>[int a.1,int a.2],false⟩:ay))
theorem OJ.app{ae bX:List (Nat×ay)}{v:Value}{ak:List (Int×Int)}(h:OJ ae v ak):OJ (ae++bX) v ak:=by
 rcases h with h|⟨p,c,j,h1,h2⟩
 exact .inl h;exact .inr ⟨p,c,j,h1,aK h2⟩
end
end Go.Ab
namespace Go.Ab
open Go
local instance:hD:=⟨fun _=>none,0⟩
inductive o2|b|i (k:IntKind)|s
def alL:o2->Value->Prop
 | .b,.bool _=>True
 | .i k,.int eE _=>k=eE
 | .s,.string _=>True
 | _,_=>False
def jP:List o2->List Value->Prop
 | [],[]=>True
 | k::gP,v::vs=>alL k v/\jP gP vs
 | _,_=>False
def Du:Value->Value->Bool
 | .bool a,.bool b=>a==b
 | .int _ a,.int _ b=>decide (a=b)
 | .string a,.string b=>a.data.toList==b.data.toList
 | _,_=>false
def oj:List Value->List Value->Bool
 | [],[]=>true
 | x::ak,y::aX=>Du x y&&oj ak aX
 | _,_=>false
theorem jP.len:∀ {gP:List o2} {vs:List Value},jP gP vs->vs.length=gP.length
 | [],[],_=>rfl
 | _::_,_::_,h=>by simp[jP.len h.2]
theorem jP.app:∀ {a b:List o2} {vs:List Value},jP (a++b) vs->jP a (vs.take a.length)/\jP b (vs.drop a.length)
 | [],b,vs,h=>⟨trivial,h⟩
 | k::a,b,v::vs,h=>⟨⟨h.1,(jP.app (a:=a) h.2).1⟩,(jP.app (a:=a) h.2).2⟩
theorem OK:∀(n:Nat) (ak aX:List Value),n<=ak.length->ak.length=aX.length->oj ak aX=(oj (ak.take n) (aX.take n)&&oj (ak.drop n) (aX.drop n))
 | 0,ak,aX,_,_=>by simp[oj]
 | n+1,x::ak,y::aX,h,e=>by show(Du x y&&oj ak aX)=((Du x y&&oj (ak.take n) (aX.take n))&&oj (ak.drop n) (aX.drop n));rw[OK n ak aX (by simpa using h) (by simpa using e),Bool.and_assoc]
 | n+1,[],_,h,_=>by simp at h
 | n+1,_::_,[],_,e=>by simp at e
section
variable(P:Program)
def JJ(F:TypeId->Option (List o2)):List Field->Nat->Option (List o2)
 | [],_=>some []
 | f::bj,off=>
  if f.name== "_" then none else
  match Nat.beq f.offset off,gD P f.type,F f.type with
  | true,some m,some gP=>(match Nat.beq gP.length m,JJ F bj (off+m)with
   | true,some r=>some (gP++r)
   | _,_=>none)
  | _,_,_=>none
def Dv:Nat->List o2->List o2
 | 0,_=>[]
 | n+1,l=>l++Dv n l
def qW:Nat->TypeId->Option (List o2)
 | 0,_=>none
 | d+1,t=>
  match P.underlying t,p2 P t with
  | some .bool,some false=>some [.b]
  | some (.int k),some false=>some [.i k]
  | some .string,some false=>some [.s]
  | some (.struct bj),some true=>if P.stoodInHeld t then none else JJ P (qW d) bj.toList 0
  | some (.array n e),some true=>(match gD P e,qW d e with
   | some m,some gP=>(match Nat.beq gP.length m with|true=>some (Dv n gP)|false=>none)
   | _,_=>none)
  | _,_=>none
variable{P}
def rN(P:Program)(t:TypeId)(ao:List Value):Option Value:=
 match p2 P t with
 | some true=>some (.agg ao.toArray)
 | some false=>ao[0]?
 | none=>none
theorem JK{t:TypeId}{ao:List Value}{off n:Nat}{gP:List o2}(aw:gD P t=some n)(hf:jP gP ((ao.drop off).take n))(ag:gP.length=n)(h1:p2 P t=some false->n=1):sY P t ao off=rN P t ((ao.drop off).take n):=by
 unfold sY rN;rw[aw]
 match h:p2 P t with
 | some true=>grind[mj,nh]
 | some false=>simp_all[u1]
 | none=>rfl
theorem OL{d:Nat}{t:TypeId}{gP:List o2}(h:qW P d t=some gP)(bp:p2 P t=some false):gP.length=1:=by
 cases d with
 | zero=>cases h
 | succ d=>grind[qW]
theorem JL{d:Nat}{t:TypeId}{gP:List o2}{ak:List Value}(h:qW P d t=some gP)(al:jP gP ak):∃v,rN P t ak=some v:=by
 unfold rN
 match bp:p2 P t with
 | some true=>simp_all
 | some false=>
  have h1:=OL h bp;have:=al.len
  simp_all
 | none=>
  cases d with
  | zero=>cases h
  | succ d=>simp_all[qW]
def OM(P:Program)(sZ:TypeId->Value->Value->Option Bool)(F:TypeId->Option (List o2)):Prop:=
 ∀t gP ak aX x y,F t=some gP->jP gP ak->jP gP aX->rN P t ak=some x->rN P t aX=some y->sZ t x y=some (oj ak aX)
theorem Wx{sZ:TypeId->Value->Value->Option Bool}{d:Nat}(hg:OM P sZ (qW P d))(ak aX:List Value):
  ∀(bj:List Field) (off:Nat) (gP:List o2),JJ P (qW P d) bj off=some gP->jP gP (ak.drop off)->jP gP (aX.drop off)->eqFields P sZ ak aX bj=some (oj (ak.drop off) (aX.drop off))
 | [],off,gP,h,al,a8=>by cases h;have bb:ak.drop off=[]:=length_eq_zero_iff.1 al.len;have bt:aX.drop off=[]:=length_eq_zero_iff.1 a8.len;rw[bb,bt];rfl
 | f::bj,off,gP,h,al,a8=>by
  unfold JJ at h;unfold eqFields;split at h;cases h;rename_i alM;rw[if_neg alM];split at h;rename_i m aC8 bC aw hf;split at h;rename_i r aE U;cases h;have bC:=eq_of_beq_eq_true bC;have aE:=eq_of_beq_eq_true aE;subst bC;obtain⟨sn,s8⟩:=al.app;obtain⟨xR,Bj⟩:=a8.app;rw[aE]at sn s8 xR Bj;have h1:p2 P f.type=some false->m=1:=fun bp=>by grind[OL]
  rw[JK aw sn aE h1,JK aw xR aE h1];obtain⟨v,hv⟩:=JL hf sn;obtain⟨w,aM⟩:=JL hf xR;rw[hv,aM];simp only;rw[hg _ _ _ _ _ _ hf sn xR hv aM];rw[drop_drop]at s8 Bj;have a7:=Wx hg ak aX bj (f.offset+m) r U s8 Bj;have ON:=al.len;have OO:=a8.len;rw[length_append]at ON OO;rw[OK m (ak.drop f.offset) (aX.drop f.offset) (by omega) (by omega),drop_drop,drop_drop];cases aD:oj ((ak.drop f.offset).take m) ((aX.drop f.offset).take m)with
  | true=>simp_all
  | false=>rfl
  cases h;cases h
theorem Wy{sZ:TypeId->Value->Value->Option Bool}{d:Nat}(hg:OM P sZ (qW P d)){e:TypeId}{m:Nat}{gP:List o2}(aw:gD P e=some m)(hf:qW P d e=some gP)(aE:gP.length=m)(ak aX:List Value):
  ∀(n i:Nat),jP (Dv n gP) (ak.drop (i*m))->jP (Dv n gP) (aX.drop (i*m))->Co P (sZ e) e m ak aX n i=some (oj (ak.drop (i*m)) (aX.drop (i*m)))
 | 0,i,al,a8=>by have bb:ak.drop (i*m)=[]:=length_eq_zero_iff.1 al.len;have bt:aX.drop (i*m)=[]:=length_eq_zero_iff.1 a8.len;rw[bb,bt];rfl
 | n+1,i,al,a8=>by
  unfold Co;have al:jP (gP++Dv n gP) (ak.drop (i*m)):=al;have a8:jP (gP++Dv n gP) (aX.drop (i*m)):=a8;obtain⟨sn,s8⟩:=al.app;obtain⟨xR,Bj⟩:=a8.app;rw[aE]at sn s8 xR Bj;have h1:p2 P e=some false->m=1:=fun bp=>by grind[OL]
  rw[JK aw sn aE h1,JK aw xR aE h1];obtain⟨v,hv⟩:=JL hf sn;obtain⟨w,aM⟩:=JL hf xR;rw[hv,aM];simp only;rw[hg _ _ _ _ _ _ hf sn xR hv aM];rw[drop_drop,<- succ_mul]at s8 Bj;have a7:=Wy hg aw hf aE ak aX n (i+1) s8 Bj;have ON:=al.len;have OO:=a8.len;rw[length_append]at ON OO;rw[OK m (ak.drop (i*m)) (aX.drop (i*m)) (by omega) (by omega),drop_drop,drop_drop,<- succ_mul];cases aD:oj ((ak.drop (i*m)).take m) ((aX.drop (i*m)).take m)with
  | true=>simp_all
  | false=>rfl
theorem OP:∀(d D:Nat),d<=D->OM P (nG P D) (qW P d)
 | 0,_,_=>fun t gP ak aX x y h=>by cases h
 | d+1,0,h=>by omega
 | d+1,D+1,aO=>fun t gP ak aX x y h al a8 jE qX=>by
  have a7:=OP d D (by omega);unfold qW at h;unfold nG;split at h;rename_i bc bp;cases h;rw[bc];unfold rN at jE qX;rw[bp]at jE qX
  match ak,aX,al,a8,jE,qX with
  | [.bool a],[.bool b],_,_,jE,qX=>grind[oj,Du]
  rename_i k bc bp;cases h;rw[bc];unfold rN at jE qX;rw[bp]at jE qX
  match ak,aX,al,a8,jE,qX with
  | [.int ep a],[.int hl b],al,a8,jE,qX=>
   cases jE;cases qX;have bb:k=ep:=al.1;have bt:k=hl:=a8.1;subst bb;subst bt;have:tE k k=true:=by cases k<;>rfl
   simp_all[oj,Du,rA]
  rename_i bc bp;cases h;rw[bc];unfold rN at jE qX;rw[bp]at jE qX
  match ak,aX,al,a8,jE,qX with
  | [.string a],[.string b],_,_,jE,qX=>grind[oj,Du]
  rename_i bj bc bp;rw[bc];unfold rN at jE qX;rw[bp]at jE qX;cases jE;cases qX;split at h;cases h;rename_i hb;simp only;rw[if_neg hb];have:=Wx a7 ak aX bj.toList 0 gP h al a8
  simp_all
  grind[rN,eq_of_beq_eq_true,Wy]
  cases h
theorem alN{t:TypeId}{c:Bool}{gP:List o2}{ak aX:List Value}(ag:qW P 100 t=some gP)(bp:p2 P t=some true)(hg:P.eqGuardType P.depth t=false)(al:jP gP ak)(a8:jP gP aX):(au P .eql t c).f (.agg ak.toArray) (.agg aX.toArray)=some (.bool (oj ak aX)):=by
 show(if uT P t c (.agg ak.toArray) (.agg aX.toArray)then(nG P 100 t (.agg ak.toArray) (.agg aX.toArray)).map Value.bool else none)=_;have h1:uT P t c (.agg ak.toArray) (.agg aX.toArray)=true:=by show(!P.eqGuardType P.depth t)=true;grind
 rw[if_pos h1,OP 100 100 (Nat.le_refl _) t gP ak aX _ _ ag al a8 (by simp_all[rN]) (by simp_all[rN])];rfl
theorem Wz{t:TypeId}{c:Bool}{gP:List o2}{ak aX:List Value}(ag:qW P 100 t=some gP)(bp:p2 P t=some true)(hg:P.eqGuardType P.depth t=false)(al:jP gP ak)(a8:jP gP aX):(au P .neq t c).f (.agg ak.toArray) (.agg aX.toArray)=some (.bool !(oj ak aX)):=by
 show(if uT P t c (.agg ak.toArray) (.agg aX.toArray)then(nG P 100 t (.agg ak.toArray) (.agg aX.toArray)).map (fun r=>Value.bool !r)else none)=_;have h1:uT P t c (.agg ak.toArray) (.agg aX.toArray)=true:=by show(!P.eqGuardType P.depth t)=true;grind
 rw[if_pos h1,OP 100 100 (Nat.le_refl _) t gP ak aX _ _ ag al a8 (by simp_all[rN]) (by simp_all[rN])];rfl
end
end Go.Ab
namespace Go.Ab
open Go
def Dw:IntKind->Nat
 | .u8=>8
 | .u16=>16
 | .u32=>32
 | .u64=>64
 | _=>0
def te:IntKind->Bool
 | .u8=>true
 | .u16=>true
 | .u32=>true
 | .u64=>true
 | _=>false
def gk(k:IntKind):Nat:=2^Dw k
abbrev bQ(k:IntKind)(a:Nat):Value:=.int k (a:Int)
section
variable[dX]{P:Program}{k eE:IntKind}{t:TypeId}{c:Bool}{a b n:Nat}{H:ar}
theorem vt(ag:te k=true):iJ k (a:Int)=((a%gk k:Nat):Int):=by cases k<;>first|(cases ag;done)|rfl
theorem Bk(ag:te k=true):n0 k (a:Int)=a%gk k:=by cases k<;>first|(cases ag;done)|rfl
theorem vu(ag:te k=true)(bp:a<gk k)(an:b<gk k):(au P .and t c).f (bQ k a) (bQ k b)=some (bQ k (a&&&b)):=by rw[qT _ _ rfl];show some (Value.int k (iJ k ((Nat.land (n0 k a) (n0 k b):Nat):Int)))=_;rw[Bk ag,Bk ag,mod_eq_of_lt bp,mod_eq_of_lt an,vt ag,mod_eq_of_lt (show Nat.land a b<gk k from and_lt_two_pow a an)];rfl
theorem Bl(ag:te k=true)(bp:a<gk k)(an:b<gk k):(au P .or t c).f (bQ k a) (bQ k b)=some (bQ k (a|||b)):=by rw[qT _ _ rfl];show some (Value.int k (iJ k ((Nat.lor (n0 k a) (n0 k b):Nat):Int)))=_;rw[Bk ag,Bk ag,mod_eq_of_lt bp,mod_eq_of_lt an,vt ag,mod_eq_of_lt (show Nat.lor a b<gk k from or_lt_two_pow bp an)];rfl
theorem mV(ag:te k=true)(bp:a<gk k)(an:b<gk k):(au P .xor t c).f (bQ k a) (bQ k b)=some (bQ k (a ^^^ b)):=by rw[qT _ _ rfl];show some (Value.int k (iJ k ((Nat.xor (n0 k a) (n0 k b):Nat):Int)))=_;rw[Bk ag,Bk ag,mod_eq_of_lt bp,mod_eq_of_lt an,vt ag,mod_eq_of_lt (show Nat.xor a b<gk k from xor_lt_two_pow bp an)];rfl
theorem sy(ag:te k=true):(au P .add t c).f (bQ k a) (bQ k b)=some (bQ k ((a+b)%gk k)):=by rw[Wc,show(a:Int)+(b:Int)=((a+b:Nat):Int) by simp,vt ag]
theorem OQ(ag:te k=true):(au P .mul t c).f (bQ k a) (bQ k b)=some (bQ k ((a*b)%gk k)):=by rw[We,show(a:Int)*(b:Int)=((a*b:Nat):Int) by simp,vt ag]
theorem OR(ag:te k=true)(h:b<=a)(bp:a<gk k):(au P .sub t c).f (bQ k a) (bQ k b)=some (bQ k (a-b)):=by rw[Wd,show(a:Int)-(b:Int)=((a-b:Nat):Int) by omega,vt ag,mod_eq_of_lt (by omega)]
theorem xS(an:0<b):(au P .rem t c).f (bQ k a) (bQ k b)=some (bQ k (a%b)):=by grind[JH]
theorem OS(ag:te k=true)(an:0<b)(bp:a<gk k):(au P .quo t c).f (bQ k a) (bQ k b)=some (bQ k (a/b)):=by rw[qT _ _ rfl];show(match oN (b:Int) 0 with|true=>none|false=>some (Value.int k (iJ k ((a:Int).tdiv b))))=_;rw[rA,decide_eq_false (by omega)];show some (Value.int k (iJ k ((a/b:Nat):Int)))=_;rw[vt ag,mod_eq_of_lt (Nat.lt_of_le_of_lt (div_le_self _ _) bp)]
theorem Dx(ag:te k=true)(aR:n<=Dw k):(au P .shl t c).f (bQ k a) (bQ eE n)=some (bQ k (a*2^n%gk k)):=by
 show Ah true k a n=_;have an:k.bits=Dw k:=by cases k<;>first|(cases ag;done)|rfl
 unfold Ah;rw[if_neg (by omega),if_pos rfl,Int.toNat_natCast,an,Nat.min_eq_left aR,show(a:Int)*((2^n:Nat):Int)=((a*2^n:Nat):Int) by simp,vt ag]
theorem xT(ag:te k=true)(aR:n<=Dw k):(au P .shr t c).f (bQ k a) (bQ eE n)=some (bQ k (a/2^n)):=by
 show Ah false k a n=_;have an:k.bits=Dw k:=by cases k<;>first|(cases ag;done)|rfl
 unfold Ah
 grind
theorem alO{w:Nat}(bp:a<2^w):(2^w-1) ^^^ a=2^w-1-a:=by
 apply eq_of_testBit_eq;intro i;rw[show 2^w-1-a=2^w-(a+1) by omega,testBit_two_pow_sub_succ bp,testBit_xor,testBit_two_pow_sub_one]
 grind[testBit_lt_two_pow,Nat.lt_of_lt_of_le,Nat.pow_le_pow_right]
theorem alP(ag:te k=true)(bp:a<gk k):hQ .xor (bQ k a)=some (bQ k (gk k-1-a)):=by
 show some (Value.int k (iJ k ((Nat.xor (n0 k (if k.signed then-1 else k.max)) (n0 k (a:Int)):Nat):Int)))=_;have hm:n0 k (if k.signed then-1 else k.max)=gk k-1:=by cases k<;>first|(cases ag;done)|rfl
 rw[hm,Bk ag,mod_eq_of_lt bp,vt ag,show Nat.xor (gk k-1) a=(2^Dw k-1) ^^^ a from rfl,alO bp,mod_eq_of_lt (by grind[gk])];rfl
theorem vv(ag:te eE=true):hd eE (bQ k a) H=some (bQ eE (a%gk eE),H):=by show some (Value.int eE (iJ eE (a:Int)),H)=_;rw[vt ag]
theorem Dy(h:a<=9223372036854775807):hd .i64 (bQ k a) H=some (int a,H):=alG (by omega) (by omega)
theorem WA:(au P .eql t c).f (bQ k a) (bQ k b)=some (.bool (decide (a=b))):=by simp_all[fl,Int.ofNat_inj]
end
end Go.Ab
namespace Go.Ab
open Go
abbrev a1(ak:List Int):List Value:=ak.map (Value.int .u8)
def b3(ae:List (Nat×ay))(v:Value)(ak:List Int):Prop:=
 (v=bq/\ak=[])\/∃p o c,v=aC p o ak.length c/\(c=2\/c=3)/\(ak=[]\/∃(j:Nat) (b:ay),ae[j]?=some (p,b)/\(b.cells.drop o).take ak.length=a1 ak)
def e8(v:Value)(ak:List Int)(ao:List Value):Prop:=
 (v=bq/\ak=[]/\ao=[])\/∃p,(v=aC p 0 ak.length 2\/(v=aC p 0 ak.length 3/\ao.length=ak.length))/\ao.take ak.length=a1 ak/\ak.length<=ao.length/\ao.all fE=true
section
variable[dX][bW]{P:Program}{H:ar}{ae bX:List (Nat×ay)}{v x:Value}{ak aX:List Int}{ao:List Value}{ab:Value->ar->Prop}
theorem b3.nil:b3 ae bq []:=.inl ⟨rfl,rfl⟩
theorem b3.kz(h:b3 ae v ak):∃a n c,v=.slice a n c:=by rcases h with⟨rfl,_⟩|⟨p,o,c,rfl,_⟩<;>exact⟨_,_,_,rfl⟩
theorem b3.bP(h:b3 ae v ak):bP v H=some (int ak.length,H):=by rcases h with⟨rfl,rfl⟩|⟨p,o,c,rfl,_⟩<;>rfl
theorem b3.mM(h:b3 ae v ak):mM v=some ak.length:=by rcases h with⟨rfl,rfl⟩|⟨p,o,c,rfl,_⟩<;>rfl
theorem b3.app(h:b3 ae v ak):b3 (ae++bX) v ak:=by
 rcases h with h|⟨p,o,c,h1,h2,aB|⟨j,b,aB,bk⟩⟩
 exact .inl h;exact .inr ⟨p,o,c,h1,h2,.inl aB⟩;exact .inr ⟨p,o,c,h1,h2,.inr ⟨j,b,aK aB,bk⟩⟩
theorem b3.app'(h:b3 bX v ak):b3 (ae++bX) v ak:=by
 rcases h with h|⟨p,o,c,h1,h2,aB|⟨j,b,aB,bk⟩⟩
 exact .inl h;exact .inr ⟨p,o,c,h1,h2,.inl aB⟩;exact .inr ⟨p,o,c,h1,h2,.inr ⟨ae.length+j,b,aA aB,bk⟩⟩
theorem e8.nil:e8 bq [] []:=.inl ⟨rfl,rfl,rfl⟩
theorem e8.hF(h:e8 v ak ao):b3 (bB v ao) v ak:=by
 rcases h with⟨rfl,rfl,rfl⟩|⟨p,rfl|⟨rfl,_⟩,h2,aB⟩
 exact .nil;exact .inr ⟨p,0,2,rfl,.inl rfl,.inr ⟨0,⟨ao,true⟩,rfl,by simp_all⟩⟩;exact .inr ⟨p,0,3,rfl,.inr rfl,.inr ⟨0,⟨ao,true⟩,rfl,by simp_all⟩⟩
theorem e8.bP(h:e8 v ak ao):bP v H=some (int ak.length,H):=h.hF.bP
theorem alQ{b:ay}{o:Nat}(al:ak≠[])(h:(b.cells.drop o).take ak.length=a1 ak):b.cells≠[]:=by
 intro e
 simp_all
theorem alR{b:ay}{o:Nat}(h:(b.cells.drop o).take ak.length=a1 ak):ak.length<=b.cells.length-o:=by
 have:=congrArg List.length h
 grind
theorem b3.pB(hO:aj H ae)(h:b3 ae v ak):r7 H 1 ak.length v=some (a1 ak):=by
 rcases h with⟨rfl,rfl⟩|⟨p,o,c,rfl,_,rfl|⟨j,b,aB,bk⟩⟩
 rfl;rfl;by_cases al:ak=[];subst al;rfl;rw[Dq (hO.at j aB (.inr (alQ al bk))) (by have:=alR bk;grind[length_pos_iff]),Nat.mul_one,bk]
theorem b3.at(h:b3 ae v ak){i:Nat}(aq:i<ak.length):∃(p o c j:Nat) (b:ay),v=aC p o ak.length c/\ae[j]?=some (p,b)/\b.cells[o+i]?=some (Value.int .u8 ak[i]):=by
 rcases h with⟨rfl,rfl⟩|⟨p,o,c,rfl,_,rfl|⟨j,b,aB,bk⟩⟩
 simp at aq;simp at aq;refine⟨p,o,c,j,b,rfl,aB,?_⟩;have:=congrArg (·[i]?) bk
 grind
theorem tf(hO:aj H (ae++bB v ao))(hv:e8 v ak ao)(al:b3 ae x aX)(aE:ak.length+aX.length<=1000000000)
  (ag:∀aa aH bu,aj aa (ae++bB aH bu)->e8 aH (ak++aX) bu->ab aH aa):af (fu 1 1 v x H) ab:=by
 unfold fu;simp only[al.mM,al.app.pB hO];by_cases a8:aX=[];subst a8;rw[append_nil]at ag;unfold qE;rcases hv with⟨rfl,rfl,rfl⟩|⟨p,rfl|⟨rfl,h1⟩,h2,aB⟩
 exact bV (show some (bq,H)=_ from rfl) (ag _ _ _ hO .nil);exact bV (show some (aC p 0 ak.length 2,H)=_ from rfl) (ag _ _ _ hO (.inr ⟨p,.inl rfl,h2,aB⟩));exact bV (show some (aC p 0 ak.length 3,H)=_ from rfl) (ag _ _ _ hO (.inr ⟨p,.inr ⟨rfl,h1⟩,h2,aB⟩));have Bi:0<aX.length:=length_pos_iff.2 a8;have qR:Nat.beq aX.length 0=false:=by grind[eq_of_beq_eq_true]
 have h1:(a1 aX).all eA=true:=by simp[eA]
 have xO:∀p,e8 (aC p 0 (ak.length+aX.length) 2) (ak++aX) (a1 ak++a1 aX):=fun p=>by
  refine .inr ⟨p,.inl (by simp_all),?_,by simp,by simp[fE,sv]⟩
  grind
 unfold qE;rcases hv with⟨rfl,rfl,rfl⟩|⟨p,hv,h2,aB,bk⟩
 simp only[qR,Bool.false_eq_true,if_false];rw[if_pos (wz (by omega) (by omega))];have hO:aj H ae:=by simp_all[bB]
 refine bV (show lO (a1 aX) aX.length (2*1) H=some (aC H.next 0 aX.length 2,H.push (a1 aX))from rfl) (ag _ _ (a1 aX) (hO.push _) ?_)
 simp_all
 have pH:bB v ao=[(p,⟨ao,true⟩)]:=by rcases hv with rfl|⟨rfl,_⟩<;>rfl
 rw[pH]at hO;have aq:(ae++[(p,(⟨ao,true⟩:ay))])[ae.length]?=some (p,⟨ao,true⟩):=by simp
 have nL:=hO.at _ aq (.inl rfl);rcases hv with rfl|⟨rfl,hlen⟩
 have zj:=hO.gG aq;have he:(ae++[(p,(⟨ao,true⟩:ay))]).eraseIdx ae.length=ae:=by grind
 rw[he]at zj;simp only[qR,Bool.false_eq_true,if_false];rw[if_pos (wz (by omega) (by omega))];rw[if_neg (show¬Nat.beq 2 (2*1+1)=true by decide),if_pos (show Nat.beq 2 (2*1)=true by decide)];unfold Am;rw[nL];have e:(ar.nZ H p ⟨ao,true⟩&&(Nat.ble (0+ak.length*1) (fG ao)&&jM eA (a1 aX)))=true:=by unfold ar.nZ;rw[hO.ck,gE,j0,h1,lR,lR,decide_eq_true (by omega:0+ak.length*1<=ao.length)];simp
 simp only[e];have bt:hP (qD (p1 ao (0+ak.length*1)) 0) (a1 aX)=a1 ak++a1 aX:=by simp_all[iv,nh,mj]
 rw[bt];exact bV (show lO (a1 ak++a1 aX) (ak.length+aX.length) (2*1) (H.set p none)=some (aC H.next 0 (ak.length+aX.length) 2,(H.set p none).push (a1 ak++a1 aX))from rfl) (ag _ _ _ (zj.push _) (xO _));simp only[qR,Bool.false_eq_true,if_false];rw[if_pos (wz (by omega) (by omega))];rw[if_pos (show Nat.beq 3 (2*1+1)=true by decide)];unfold yH;have oV:ao=a1 ak:=by grind
 have dZ:(if Nat.beq ak.length 0=true then some []else r5 H p 0 (ak.length*1))=some (a1 ak):=by simp_all[AA,xb,mj,nh,gE]
 rw[dZ];simp only[iv];exact bV (show lO (a1 ak++a1 aX) (ak.length+aX.length) (2*1) H=some (aC H.next 0 (ak.length+aX.length) 2,H.push (a1 ak++a1 aX))from rfl) (ag _ _ _ (hO.left.push _) (xO _))
theorem wA{q:Nat}{w:Bool}(hO:aj H ((ae++bB v ao)++[(q,⟨a1 aX,w⟩)]))(hv:e8 v ak ao)(aE:ak.length+aX.length<=1000000000){n c:Nat}(aR:n=aX.length)(aD:c=2\/c=3)
  (ag:∀aa aH bu,aj aa (ae++bB aH bu)->e8 aH (ak++aX) bu->ab aH aa):af (fu 1 1 v (aC q 0 n c) H) ab:=by
 have de:aj H ((ae++[(q,⟨a1 aX,w⟩)])++bB v ao):=hO.e4 (by simp_all[List.Perm.append_left]);refine tf de hv (aX:=aX) (.inr ⟨q,0,c,by rw[aR],aD,.inr ⟨ae.length,⟨a1 aX,w⟩,by simp,?_⟩⟩) aE ?_
 simp_all[take_of_length_le]
 grind[aj.sub]
theorem Dz{kR:List Value}(hO:aj H ((ae++bB v ao)++bB x kR))(hv:e8 v ak ao)(al:e8 x aX kR)(aE:ak.length+aX.length<=1000000000)
  (ag:∀aa aH bu,aj aa (ae++bB aH bu)->e8 aH (ak++aX) bu->ab aH aa):af (fu 1 1 v x H) ab:=by
 have de:aj H ((ae++bB x kR)++bB v ao):=hO.e4 (by simp_all[List.Perm.append_left,perm_append_comm]);refine tf de hv al.hF.app' aE ?_
 grind[aj.sub]
theorem DA{n:Int}(aN:0<=n)(h1:n<18446744073709551616):hd .u64 (int n) H=some (bQ .u64 n.toNat,H):=by obtain⟨m,rfl⟩:∃m:Nat,n=m:=⟨n.toNat,by omega⟩;show some (Value.int .u64 (iJ .u64 (m:Int)),H)=_;rw[vt rfl,Int.toNat_natCast,mod_eq_of_lt (show m<gk .u64 from(show m<18446744073709551616 by omega))]
theorem F1{k:IntKind}{n:Int}(aN:0<=n):Value.int k n=bQ k n.toNat:=by grind
theorem xU{p o n:Nat}{b:ay}(hO:aj H ae)(i:Nat)(aq:ae[i]?=some (p,b))(bS:0<n)(aR:o+n<=b.cells.length):l1 n 1 (ai p o) none none none H=some (aC p o n 3):=by
 have hg:=hO.at i aq (.inr (by grind))
 simp_all[l1,gE,ble_eq_true_of_le,n2,qG,r9,ru]
theorem alS(ak:List Int):uU (a1 ak)=some (ak.map fun n=>UInt8.ofNat n.toNat):=by
 induction ak with
 | nil=>rfl
 | cons x r a7=>simp_all[uU]
def DB(ak:List Int):Value:=.string ⟨(ak.map fun n=>UInt8.ofNat n.toNat).toArray⟩
theorem b3.bl(hO:aj H ae)(h:b3 ae v ak):n1 v H=some (DB ak,H):=by
 have he:=h.pB hO;rcases h with⟨rfl,rfl⟩|⟨p,o,c,rfl,_⟩
 rfl;unfold n1;simp only;split;rename_i aN;have aN:=eq_of_beq_eq_true aN;have:ak=[]:=length_eq_zero_iff.1 aN;subst this;rfl;rename_i aN;unfold r7 at he;simp only[Nat.mul_one]at he;rw[if_neg aN]at he;rw[he];simp only[alS];rfl
theorem JM{t e:TypeId}{c:Bool}{a:Option Addr}{n k:Nat}(ht:P.underlying t=some (.slice e)):(au P .eql t c).f (.slice a n k) bq=some (.bool a.isNone):=by show(if uT P t c (.slice a n k) bq then(nG P 100 t (.slice a n k) bq).map Value.bool else none)=_;have h1:uT P t c (.slice a n k) bq=true:=rfl;rw[if_pos h1];show(nG P (99+1) t (.slice a n k) bq).map Value.bool=_;unfold nG;rw[ht];cases a<;>rfl
theorem alT{o n c:Nat}{p:Nat}{h:Int}(aN:0<=h)(h1:h<=n)(aD:c=2\/c=3):∃b5,(b5=2\/b5=3)/\gL 1 (aC p o n c) none (some (int h)) none=some (aC p o h.toNat b5):=by
 obtain⟨m,rfl⟩:∃m:Nat,h=m:=⟨h.toNat,by omega⟩;have an:n2 n (some (int (m:Int)))=some m:=by
  show(match j7 0 (m:Int)with|true=>(match Nat.ble (m:Int).toNat n with|true=>some (m:Int).toNat|false=>none)|false=>none)=_
  simp_all[k9,ble_eq_true_of_le]
 rcases aD with rfl|rfl
 simp_all[gL,qG,r9,ru]
 refine⟨cond (Nat.beq m n) 3 2,by grind,?_⟩
 simp_all[gL,qG,r9,ru]
end
end Go.Ab
namespace Go.Ab
open Go
local instance:hD:=⟨fun _=>none,0⟩
section
variable[dX]{P:Program}{H:ar}{ae:List (Nat×ay)}
abbrev iA(l:Nat)(r:ha)(L:bW):bW:=⟨(l,r)::L.l⟩
theorem Bm{L:bW}(h:@aj L H ae):H.dB=0:=@aj.ck L H ae h
theorem DC{L:bW}(h:@aj L H ae):H.t.rJ H.next:=@aj.qU L H ae h
theorem JN{L:bW}(h:@aj L H ae):(ae.map (·.1)).Nodup:=@aj.su L H ae h
theorem DD{L:bW}(h:@aj L H ae):∀x∈ae,x.1<H.next:=@aj.lt L H ae h
theorem JO{L:bW}(h:@aj L H ae):∀x∈ae,(x.2.wr=true\/x.2.cells≠[])->H.get x.1=some x.2:=@aj.get L H ae h
theorem zl{L:bW}(h:@aj L H ae):H.dI=L.l:=@aj.dI L H ae h
theorem xV{L:bW}(h:@aj L H ae):∀x∈L.l,x.1<H.next:=@aj.Dn L H ae h
theorem alU{L:bW}(h:@aj L H ae)(T:List Value)(bJ:List Tmp)(cS body:Code):@aj (iA (Nat.succ H.next) ⟨T,bJ,cS,body,.ready⟩ L) (laid T bJ cS body H) ae:=by
 have OT:(H.t.set H.next none).rJ (H.next+1):=fun m hm=>by
  by_cases he:m=H.next
  grind[Tr.zg,DC]
  exact Tr.zf _ _ _ _ ((DC h) m (by omega))
 have alV:((H.t.set H.next none).set (Nat.succ H.next) none).rJ (H.next+2):=fun m hm=>by
  by_cases he:m=Nat.succ H.next
  simp_all[Tr.zg]
  exact Tr.zf _ _ _ _ (OT m (by omega))
 have gM:=Bm h;have gN:=JN h;refine @aj.mk (iA (Nat.succ H.next) ⟨T,bJ,cS,body,.ready⟩ L) (laid T bJ cS body H) ae gM alV gN (fun x al=>?_) (fun x al aM=>?_) ?_ (fun x al=>?_);have:=(DD h) x al;show x.1<H.next+2;omega;have:=(DD h) x al;show((H.t.set H.next none).set (Nat.succ H.next) none).get x.1=some x.2;rw[Tr.ly _ _ _ _ (by omega),Tr.ly _ _ _ _ (by omega)];exact(JO h) x al aM;show(_,_)::H.dI=_;grind[zl];rcases mem_cons.1 al with rfl|al
 show H.next+1<H.next+2;omega;have:=(xV h) x al;show x.1<H.next+2;omega
theorem alW{L:bW}{l:Nat}{r:ha}(h:@aj (iA l r L) H ae):@aj L ⟨H.t,H.next,H.dB,L.l⟩ ae:=by have gM:=Bm h;have gN:=DC h;have mU:=JN h;have lE:=DD h;have pE:=JO h;have rF:=xV h;exact @aj.mk L ⟨H.t,H.next,H.dB,L.l⟩ ae gM gN mU lE pE rfl (fun x al=>rF x (mem_cons_of_mem _ al))
theorem WB{L cA:bW}(h:@aj L H ae)(aE:∀x∈cA.l,x.1<H.next):@aj cA ⟨H.t,H.next,H.dB,cA.l⟩ ae:=by have gM:=Bm h;have gN:=DC h;have mU:=JN h;have lE:=DD h;have pE:=JO h;exact @aj.mk cA ⟨H.t,H.next,H.dB,cA.l⟩ ae gM gN mU lE pE rfl aE
theorem WC{L:bW}{l:Nat}{r:ha}{st:uP}(hm:(mK r||mK ⟨r.T,r.bJ,r.cS,r.body,st⟩)=false)(h:@aj (iA l r L) H ae):∃cB,uZ l st H=some cB/\@aj (iA l ⟨r.T,r.bJ,r.cS,r.body,st⟩ L) cB ae:=by
 refine⟨⟨H.t,H.next,H.dB,(iA l ⟨r.T,r.bJ,r.cS,r.body,st⟩ L).l⟩,?_,WB h fun x al=>?_⟩;unfold uZ;have e:H.dI=(l,r)::L.l:=(zl h);rw[show Nat.ble H.dB l=true by rw[(Bm h)];rfl,e,qa,if_pos rfl];simp only;have:lv ((l,r)::L.l) l ⟨r.T,r.bJ,r.cS,r.body,st⟩=(l,⟨r.T,r.bJ,r.cS,r.body,st⟩)::L.l:=by
  show cond (Nat.beq l l) _ _=_
  simp_all
 grind
 rcases mem_cons.1 al with rfl|al
 exact(xV h) (l,r) mem_cons_self;exact(xV h) x (mem_cons_of_mem _ al)
theorem WD{L:bW}{l:Nat}{T:List Value}{bJ:List Tmp}{cS body:Code}{ab:ar->Prop}(h:@aj (iA l ⟨T,bJ,cS,body,.ready⟩ L) H ae)(ag:∀cB,@aj (iA l ⟨T,bJ,cS,body,.busy⟩ L) cB ae->ab cB):FO l H ab:=by obtain⟨cB,h1,h2⟩:=WC (st:=.busy) rfl h;refine⟨cB,?_,ag cB h2⟩;unfold Az;have e:H.dI=(l,(⟨T,bJ,cS,body,.ready⟩:ha))::L.l:=(zl h);rw[e,qa,if_pos rfl];exact h1
theorem WE{L:bW}{l:Nat}{r:ha}{e:mJ}{ab:Value->ar->Prop}(h:@aj (iA l r L) H ae)(ag:∀cB,@aj (iA l ⟨r.T,r.bJ,r.cS,r.body,CC e⟩ L) cB ae->ab (.bool (yR e)) cB)(hm:mK r=false:=by rfl):Di l e H ab:=by obtain⟨cB,h1,h2⟩:=WC (st:=CC e) (by rw[hm];cases e<;>rfl) h;exact⟨cB,h1,ag cB h2⟩
theorem WG{L:bW}{n l:Nat}{bJ:List Tmp}{cS body:Code}{lF args T:List Value}{ab:Value->ar->Prop}(h:@aj (iA l ⟨T,bJ,cS,body,.ready⟩ L) H ae)(bd:T.length=n)
  (jq:xJ (bits n (sr cS body)) (l7 (bits n (sr cS body)) lF) T) (hlen:args.length=bJ.length) (lk:bJ.all (· < n)=true) (hv:Jp P n bJ cS body lF args l H ab):xF P (.round l args H) ab:=by
 refine ak1 ?_ bd jq hlen (fun p bS=>?_) hv;have e:H.dI=(l,(⟨T,bJ,cS,body,.ready⟩:ha))::L.l:=(zl h)
 simp_all[qa]
 simp_all
theorem WH:∀(l:List (Nat×ha)) (i:Nat),(∀x∈l,x.1<i)->eD l i=none
 | [],_,_=>rfl
 | x::r,i,h=>by have:=h x mem_cons_self;rw[qa,if_neg (by omega)];exact WH r i fun y a8=>h y (mem_cons_of_mem _ a8)
def WI:uP->mJ
 | .over e=>e
 | _=>.normal
theorem WJ{L:bW}{n:Nat}{bJ:List Tmp}{cS body:Code}{lF args:List Value}{g:Value}{f:FuncId}{N:ar->Prop}{bL:Nat->ar->Prop}{cy:ar->Prop}(h:@aj L H ae)(hg:tL g [uX (Nat.succ H.next)]=some (.fn f args))
  (aD:∀T,T.length=n->xJ (bits n (sr cS body)) (l7 (bits n (sr cS body)) lF) T->∀fO,@aj (iA (Nat.succ H.next) ⟨T,bJ,cS,body,.ready⟩ L) fO ae->az P f args fO fun _ br=>∃(st:uP) (hp:List (Nat×ay)),(st≠.busy/\st≠.over .normal)/\@aj (iA (Nat.succ H.next) ⟨T,bJ,cS,body,st⟩ L) br hp/\∀cB,@aj L cB hp->VI N bL cy (WI st) cB):FN P n bJ cS body lF g H N bL cy:=by
 intro T bd jq;obtain⟨m,cJ,v,br,U,st,hp,hb,bE,ag⟩:=aD T bd jq _ (alU h T bJ cS body);refine⟨m,⟨WI st,T,⟨br.t,br.next,br.dB,L.l⟩⟩,?_,rfl,ag _ (alW bE)⟩;unfold uY;rw[hg];simp only;rw[U];simp only;unfold Ms;have e:br.dI=(Nat.succ H.next,(⟨T,bJ,cS,body,st⟩:ha))::L.l:=(zl bE);have ey:eD L.l (Nat.succ H.next)=none:=WH _ _ fun x al=>by have:=(xV h) x al;omega
 rw[e];simp only;rw[beq_refl,show Nat.ble br.dB (Nat.succ H.next)=true by rw[(Bm bE)];rfl];simp only[Bool.and_self,ey];cases st with
 | ready=>rfl
 | busy=>simp_all
 | over alX=>
  cases alX with
  | normal=>simp_all
  | ret=>rfl
  | exit i=>rfl
theorem WK{l:Nat}{args:List Value}{ab:Value->ar->Prop}(h:xF P (.round l args H) ab):xG P (tL (uX l) args) H ab:=h
section
variable{k:IntKind}{t:TypeId}{c:Bool}{a b:Int}{p o n size:Nat}{i:Int}{q:Prop}[Decidable q]{x y:Value}{A B:Prop}
theorem alY(h1:-9223372036854775808<=a+b:=by omega)(h2:a+b<=9223372036854775807:=by omega):(au P .add t c).f (.int .i64 a) (.int .i64 b)=some (.int .i64 (a+b)):=jg h1 h2
theorem alZ(h1:-9223372036854775808<=a-b:=by omega)(h2:a-b<=9223372036854775807:=by omega):(au P .sub t c).f (.int .i64 a) (.int .i64 b)=some (.int .i64 (a-b)):=mu h1 h2
theorem al0{c:Nat}(aN:0<=i:=by omega)(h1:i<n:=by omega):gd size (aC p o n c) (.int k i)=some (ai p (o+i.toNat*size)):=h4 aN h1
theorem al1(aN:0<=i:=by omega)(h1:i<n:=by omega):eO n size (ai p o) (.int k i)=some (ai p (o+i.toNat*size)):=fy aN h1
theorem al2(h:q:=by first|assumption|omega):aY (.bool (decide q)) x y=some x:=hT h
theorem al3(h:¬q:=by first|assumption|omega):aY (.bool (decide q)) x y=some y:=ho h
theorem uh(hA:A)(h:q:=by first|assumption|omega):aG (.bool (decide q)) A B:=rK h hA
theorem vw(dP:B)(h:¬q:=by first|assumption|omega):aG (.bool (decide q)) A B:=nr h dP
end
theorem cw[bW]{L:List (Nat×ay)}{p o:Nat}{b:ay}{v:Value}{ab:Value->ar->Prop}(h:aj H (ae++L))(k:Nat)(aq:L[k]?=some (p,b))(hv:b.cells[o]?=some v)(ag:ab v H):af (ax (ai p o) H) ab:=aP h (ae.length+k) (aA aq) hv ag
section
variable{q:Prop}[Decidable q]{A B:Prop}
theorem aU{p q o:Nat}{ab:Value->Prop}(h:ab (ai p (q+o))):ad (rv (ai p q)) fun b=>ad (bF o b) ab:=⟨_,rfl,_,rfl,h⟩
theorem bD{r:Option Value}{v:Value}{ab:Value->Prop}(ag:ab v)(h:r=some v:=by first|exact alY|exact alZ|exact Wa|exact b0|exact fl|exact ik|exact ez|exact kQ|exact Oz|exact ss|exact jF|exact ll|exact mr|exact al2|exact al3|exact al0|exact al1):ad r ab:=⟨v,h,ag⟩
theorem rO{r:R}{v:Value}{aa:ar}{ab:Value->ar->Prop}(ag:ab v aa)(h:r=some (v,aa):=by first|exact xL|exact vr|exact zh):af r ab:=⟨v,aa,h,ag⟩
theorem lV{b:Bool}(hA:A)(h:b=true:=by rfl):aG (.bool b) A B:=fg h hA
theorem wB{b:Bool}(dP:B)(h:b=false:=by rfl):aG (.bool b) A B:=et h dP
theorem Bn{b:Bool}(hA:A)(h:b=true:=by rfl):cond b A B:=km h hA
end
end
end Go.Ab
namespace Go.Ab
open Go
local instance:hD:=⟨fun _=>none,0⟩
section
variable[dX]{P:Program}{H:ar}{ae:List (Nat×ay)}{ab:Value->ar->Prop}
theorem al4{L:bW}(h:@aj L H ae):@aj (iA H.next (jN []) L) (sa H) ae:=by
 have OT:(H.t.set H.next none).rJ (H.next+1):=fun m hm=>by
  by_cases he:m=H.next
  grind[Tr.zg,DC]
  exact Tr.zf _ _ _ _ ((DC h) m (by omega))
 have gM:=Bm h;have gN:=JN h;refine @aj.mk (iA H.next (jN []) L) (sa H) ae gM OT gN (fun x al=>?_) (fun x al aM=>?_) ?_ (fun x al=>?_);have:=(DD h) x al;show x.1<H.next+1;omega;have:=(DD h) x al;show(H.t.set H.next none).get x.1=some x.2;rw[Tr.ly _ _ _ _ (by omega)];exact(JO h) x al aM;show(_,_)::H.dI=_;grind[zl];rcases mem_cons.1 al with rfl|al
 show H.next<H.next+1;omega;have:=(xV h) x al;show x.1<H.next+1;omega
abbrev vx(id:Nat):Value:=.map (some id)
theorem al5{L:bW}(h:@aj L H ae)(ag:∀id aa,(∀x∈L.l,x.1<id)->@aj (iA id (jN []) L) aa ae->ab (vx id) aa):Of H ab:=ag _ _ (xV h) (al4 h)
theorem WL{L:bW}(h:@aj L H ae){id:Nat}{T:List Value}(aE:eD L.l id=some (jN T)):Cx (vx id) H=some T:=by show(match eD H.dI id with|some r=>(match mK r with|true=>some r.T|false=>none)|none=>none)=_;rw[zl h,aE];rfl
theorem JP{L:bW}(h:@aj L H ae){id:Nat}{T:List Value}{t:TypeId}{ok bl:Bool}{e:TypeId}{key z:Value}{x:Option Value}(aE:eD L.l id=some (jN T))(hm:As P t=some (bl,e))(dQ:hX P e=some z)(hf:vU bl key T=some x)
  (ag:ab (Cy ok (x.getD z) x.isSome) H):af (vV P t ok (vx id) key H) ab:=by
 refine⟨Cy ok (x.getD z) x.isSome,H,?_,ag⟩;unfold vV;simp only[hm,dQ,WL h aE,hf]
 grind
theorem al6{L:bW}{id:Nat}{T:List Value}(h:@aj (iA id (jN T) L) H ae){t:TypeId}{bl:Bool}{e:TypeId}{key v:Value}(hm:As P t=some (bl,e))(hf:vU bl key T=some none)
  (ag:∀aa,@aj (iA id (jN (T++[key,v])) L) aa ae->ab undef aa):af (tK P t (vx id) key v H) ab:=by
 have aE:eD (iA id (jN T) L).l id=some (jN T):=by show eD ((id,jN T)::L.l) id=_;simp_all[qa]
 refine⟨undef,⟨H.t,H.next,H.dB,(iA id (jN (T++[key,v])) L).l⟩,?_,ag _ (WB h fun x al=>?_)⟩;unfold tK;simp only[hm,WL h aE,hf];rw[show Nat.ble H.dB id=true by rw[Bm h];rfl];simp only;have e:H.dI=(id,jN T)::L.l:=zl h;rw[e];have:lv ((id,jN T)::L.l) id (jN (hP T [key,v]))=(id,jN (T++[key,v]))::L.l:=by
  show cond (Nat.beq id id) _ _=_
  simp_all[iv]
 grind
 rcases mem_cons.1 al with rfl|al
 exact(xV h) (id,jN T) mem_cons_self;exact(xV h) x (mem_cons_of_mem _ al)
end
end Go.Ab
namespace Go.Ab
abbrev VH:Type:=Value->ar->Prop
abbrev LN:Type:=List Value->ar->Prop
abbrev LX:Type:=Nat->List Value->ar->Prop
def LpI[dX](P:Program)(C:Nat)(p:Code)(h:Nat)(F:List Value->ar->LN->LX->LN->Prop):Prop:=∀(I:LX) (bL:LX) (cy:LN),(∀k l H,I k l H->F l H (fun l H=>∃eE,eE<k/\I eE l H) bL cy)->∀k l H,I k l H->eI P true C p h l H bL cy
theorem LpI.mk[dX]{P:Program}{C:Nat}{p:Code}{h:Nat}{F:List Value->ar->LN->LX->LN->Prop}(hf:eV p (eV p 0 h) h=eV p 0 h:=by kernel_rfl)(he:∀l H N bL cy,qe P true C p (eV p 0 h) h (l7 (bits C (eV p 0 h)) l) H (VG C p h N bL cy)=F l H N bL cy:=by intros;kernel_rfl):LpI P C p h F:=
 fun I bL cy aw k l H xK=>ak5 hf I (fun k l H h=>(he l H _ bL cy).mpr (aw k l H h)) k l H xK
end Go.Ab
namespace Go.Ab
abbrev aL(x:Value)(k:Nat)(ab:Value->Prop):Prop:=ad (rv x) fun b=>ad (bF k b) ab
abbrev LF:Type:=List Value->ar->LN->LX->LN->Prop
noncomputable instance:CoeFun (List Value) fun _=>Nat->Value:=⟨b4⟩
instance:CoeFun Mg fun _=>List (Nat×Value)->Option Value:=⟨Mg.f⟩
instance:CoeFun ER fun _=>Value->Value->Option Value:=⟨ER.f⟩
instance:CoeFun Mi fun _=>List (Nat×Value)->ar->R:=⟨Mi.f⟩
instance:CoeFun Ai fun _=>Value->ar->R:=⟨Ai.f⟩
instance:CoeFun An fun _=>List Value->ar->R:=⟨An.f⟩
instance:CoeFun Mj fun _=>Value->Value->ar->R:=⟨Mj.f⟩
abbrev V0:Type:=ar->VH->Prop
abbrev W0[dX](P:Program)(f:Nat)(F:V0):Prop:=∀ {H ab},F H ab->az P f [] H ab
theorem Wm0[dX]{P:Program}{f:Nat}{F:V0}(h:∀H ab,dX.kx f [] H=none/\zd P f [] H ab=F H ab:=by intros;exact⟨rfl,by kernel_rfl⟩)(an:dX.oi f=none:=by rfl):W0 P f F:=fun {H ab} h1=>Dm (h H ab).1 (Eq.mpr (h H ab).2 h1) an
abbrev V1:Type:=Value->ar->VH->Prop
abbrev W1[dX](P:Program)(f:Nat)(F:V1):Prop:=∀ {a H ab},F a H ab->az P f [a] H ab
theorem Wm1[dX]{P:Program}{f:Nat}{F:V1}(h:∀a H ab,dX.kx f [a] H=none/\zd P f [a] H ab=F a H ab:=by intros;exact⟨rfl,by kernel_rfl⟩)(an:dX.oi f=none:=by rfl):W1 P f F:=fun {a H ab} h1=>Dm (h a H ab).1 (Eq.mpr (h a H ab).2 h1) an
abbrev V2:Type:=Value->Value->ar->VH->Prop
abbrev W2[dX](P:Program)(f:Nat)(F:V2):Prop:=∀ {a b H ab},F a b H ab->az P f [a,b] H ab
theorem Wm2[dX]{P:Program}{f:Nat}{F:V2}(h:∀a b H ab,dX.kx f [a,b] H=none/\zd P f [a,b] H ab=F a b H ab:=by intros;exact⟨rfl,by kernel_rfl⟩)(an:dX.oi f=none:=by rfl):W2 P f F:=fun {a b H ab} h1=>Dm (h a b H ab).1 (Eq.mpr (h a b H ab).2 h1) an
abbrev V3:Type:=Value->Value->Value->ar->VH->Prop
abbrev W3[dX](P:Program)(f:Nat)(F:V3):Prop:=∀ {a b c H ab},F a b c H ab->az P f [a,b,c] H ab
theorem Wm3[dX]{P:Program}{f:Nat}{F:V3}(h:∀a b c H ab,dX.kx f [a,b,c] H=none/\zd P f [a,b,c] H ab=F a b c H ab:=by intros;exact⟨rfl,by kernel_rfl⟩)(an:dX.oi f=none:=by rfl):W3 P f F:=fun {a b c H ab} h1=>Dm (h a b c H ab).1 (Eq.mpr (h a b c H ab).2 h1) an
abbrev V4:Type:=Value->Value->Value->Value->ar->VH->Prop
abbrev W4[dX](P:Program)(f:Nat)(F:V4):Prop:=∀ {a b c d H ab},F a b c d H ab->az P f [a,b,c,d] H ab
theorem Wm4[dX]{P:Program}{f:Nat}{F:V4}(h:∀a b c d H ab,dX.kx f [a,b,c,d] H=none/\zd P f [a,b,c,d] H ab=F a b c d H ab:=by intros;exact⟨rfl,by kernel_rfl⟩)(an:dX.oi f=none:=by rfl):W4 P f F:=fun {a b c d H ab} h1=>Dm (h a b c d H ab).1 (Eq.mpr (h a b c d H ab).2 h1) an
abbrev V5:Type:=Value->Value->Value->Value->Value->ar->VH->Prop
abbrev W5[dX](P:Program)(f:Nat)(F:V5):Prop:=∀ {a b c d e H ab},F a b c d e H ab->az P f [a,b,c,d,e] H ab
theorem Wm5[dX]{P:Program}{f:Nat}{F:V5}(h:∀a b c d e H ab,dX.kx f [a,b,c,d,e] H=none/\zd P f [a,b,c,d,e] H ab=F a b c d e H ab:=by intros;exact⟨rfl,by kernel_rfl⟩)(an:dX.oi f=none:=by rfl):W5 P f F:=fun {a b c d e H ab} h1=>Dm (h a b c d e H ab).1 (Eq.mpr (h a b c d e H ab).2 h1) an
end Go.Ab
