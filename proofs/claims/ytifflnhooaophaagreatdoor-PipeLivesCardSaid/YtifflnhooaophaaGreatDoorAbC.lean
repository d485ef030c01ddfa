/- texts of the nf, fh behind the mA -/
import Derived.KernelRfl
import Derived.Deep.Slices
import Derived.Carry
import Derived.Test.YtifflnhooaophaaGreatDoorAbB
set_option linter.unusedVariables false
set_option linter.unusedSimpArgs false
set_option linter.unusedSectionVars false
open List Nat
namespace Go.Ab
open Go
local instance:h7:=⟨fun _=>none,0⟩
section
variable{P:Program}{dt cP:hQ}
abbrev sC(dt cP:hQ):Prop:=∀t o,dt t=some o->cP t=some o
theorem amY(h:sC dt cP){x:Option xG}{H:au}{r:Value×au}(U:vc dt x H=some r):vc cP x H=some r:=by grind[G9,vc]
theorem KR(h:sC dt cP){op:Op}{T:List Value}{H:au}{r:Value×au}(U:(iu P op).f dt T H=some r):(iu P op).f cP T H=some r:=by
 unfold iu at U⊢;split;rename_i fq;rw[fq]at U;simp only at U;unfold yL at U⊢
 grind[amY]
 simp_all
theorem KS(h:sC dt cP)(all:List Oper):∀(l:List Oper) (T:List Value) (H:au) (o:el),jQ P dt all l T H=some o->jQ P cP all l T H=some o
 | [],T,H,o,U=>U
 | x::l,T,H,o,U=>by have U:gW P dt x ((iT all x.guard).f T) T H (jQ P dt all l)=some o:=U;show gW P cP x ((iT all x.guard).f T) T H (jQ P cP all l)=some o;unfold gW at U⊢;split;rename_i aM;rw[aM]at U;simp only at U;split at U;rename_i v bB al;rw[KR h al];exact KS h all l _ _ _ U;cases U;rename_i aM;rw[aM]at U;exact KS h all l _ _ _ U
theorem X9(h:sC dt cP){x:Oper}{p:nD}{T:List Value}{H:au}{r:Value×au}(U:ua P dt x p T H=some r):ua P cP x p T H=some r:=by
 unfold ua at U⊢;split at U;cases h1:(iu P x.op).f dt T (l8 H)with
 | none=>rw[h1]at U;cases U
 | some y=>grind[KR]
 grind[KR]
theorem KT(h:sC dt cP)(all:List Oper):∀(l:List (Oper×nD)) (T:List Value) (H:au) (dI:List mD) (o:el),qE P dt all l T H dI=some o->qE P cP all l T H dI=some o
 | [],T,H,dI,o,U=>U
 |(x,p)::l,T,H,dI,o,U=>by have U:so P dt x p ((iT all x.guard).f T) T H dI (qE P dt all l)=some o:=U;show so P cP x p ((iT all x.guard).f T) T H dI (qE P cP all l)=some o;unfold so at U⊢;split;rename_i aM;rw[aM]at U;simp only at U;split at U;rename_i v bB al;have:ua P cP x p T H=some (v,bB):=X9 h al;rw[this];simp only;split at U;exact KT h all l _ _ _ _ U;cases U;cases U;rename_i aM;rw[aM]at U;exact KT h all l _ _ _ _ U
theorem amZ(h:sC dt cP){all:List Oper}{T:List Value}{H:au}{o:el}(U:o4 P dt all T H=some o):o4 P cP all T H=some o:=by grind[o4,KT]
theorem am0(h:sC dt cP){g:Value}{bw:List Tmp}{c9 body:Code}{T:List Value}{H:au}{o:el}(U:wy dt g bw c9 body T H=some o):wy cP g bw c9 body T H=some o:=by grind[wy]
theorem xY(h:sC dt cP)(dv:Bool):∀(c:Code) (T:List Value) (H:au) (o:el),(dN P dv c).f dt T H=some o->(dN P dv c).f cP T H=some o:=by
 intro c;induction c with
 | skip=>intro T H o U;exact U
 | region id bD d=>
  intro T H o U;cases d with
  | true=>exact amZ h (all:=bD.toList) U
  | false=>exact KS h _ _ _ _ _ U
 | seq x y cZ wS=>
  intro T H o U;have U:nE ((dN P dv x).f dt T H) (fun T H=>(dN P dv y).f dt T H)=some o:=U;show nE ((dN P dv x).f cP T H) (fun T H=>(dN P dv y).f cP T H)=some o;obtain⟨b3,h1,h2⟩:=th U;rw[cZ _ _ _ h1];obtain⟨e,ft,bB⟩:=b3;cases e with
  | normal=>
   rcases h2 with⟨_,h2⟩|⟨h2,_⟩
   exact wS _ _ _ h2
   simp_all
  | exit id=>rcases h2 with⟨h2,_⟩|⟨_,rfl⟩<;>first|cases h2|rfl
  | ret=>rcases h2 with⟨h2,_⟩|⟨_,rfl⟩<;>first|cases h2|rfl
 | cond c x y cZ wS=>
  intro T H o U;have U:pH dt ((ek c).g T) (dN P dv x) (dN P dv y) T H=some o:=U;show pH cP ((ek c).g T) (dN P dv x) (dN P dv y) T H=some o;unfold pH at U⊢
  grind
 | block id x cZ=>grind[dN,PW]
 | loop x _=>intro T H o U;exact h (.loop dv x T H) o U
 | rangeFunc g bw c9 body _ _=>
  intro T H o U;cases dv with
  | false=>cases U
  | true=>exact am0 h (g:=(Ei g).g T) (bw:=bw.toList) (c9:=c9) (body:=body) U
 | exit id=>intro T H o U;exact U
 | label l=>intro T H o U;exact U
 | ret=>intro T H o U;exact U
 | _=>intros;rename_i U;cases U
theorem am1{b3 dL:Option el}{dZ gd:List Value->au->Option el}{o:el}(h1:∀o,b3=some o->dL=some o)(h2:∀T H o,dZ T H=some o->gd T H=some o)(U:GI b3 dZ=some o):GI dL gd=some o:=by obtain⟨x,cg,cd,g3⟩:=XO U;rw[h1 _ cg];obtain⟨e,T,H⟩:=x;cases cd;exact h2 _ _ _ g3
theorem Qe(h:sC dt cP):sC (step P dt) (step P cP):=by
 intro t o U;cases t with
 | loop dv c T H=>
  have U:nE ((dN P dv c).f dt T H) (fun T H=>dt (.loop dv c T H))=some o:=U;show nE ((dN P dv c).f cP T H) (fun T H=>cP (.loop dv c T H))=some o;obtain⟨b3,h1,h2⟩:=th U;rw[xY h dv _ _ _ _ h1];obtain⟨e,ft,bB⟩:=b3;cases e with
  | normal=>
   rcases h2 with⟨_,h2⟩|⟨h2,_⟩
   exact h _ _ h2
   simp_all
  | exit id=>rcases h2 with⟨h2,_⟩|⟨_,rfl⟩<;>first|cases h2|rfl
  | ret=>rcases h2 with⟨h2,_⟩|⟨_,rfl⟩<;>first|cases h2|rfl
 | call f args H=>
  have U:(vf P f).f dt args H=some o:=U;show(vf P f).f cP args H=some o;unfold vf at U⊢;split at U;rename_i fn hf;split at U;rename_i c aB;simp only[];simp only at U;unfold wA at U⊢
  grind[xY]
  omega;omega
 | round l args H=>
  have U:xI P dt l args H=some o:=U;show xI P cP l args H=some o;unfold xI at U⊢;split at U;rename_i r aD;split at U;rename_i aU;refine am1 (fun _=>xY h false _ _ _ _) (fun ft bB o ah=>?_) U;split at ah;rename_i cJ ak;unfold GJ at ah⊢
  grind[xY]
  omega;omega;omega
theorem am2{f:FuncId}{c:Code}{args:List Value}{H:au}{o:el}(h:sC dt cP)(U:sB P f c dt args H=some o):sB P f c cP args H=some o:=by
 unfold sB at U⊢;split at U
 ·rename_i fn _;cases j7:Nat.ble (gi args) (fn.params.size+fn.nfree)with
  | false=>simp_all
  | true=>
  rw[j7]at U;show wA P fn.results.toList _=some o;have U:wA P fn.results.toList _=some o:=U;unfold wA at U⊢
  grind[xY]
 omega
theorem am3[eA](h:sC dt cP):sC (EU P dt) (EU P cP):=by
 intro t o U;cases t with
 | loop dv c T H=>exact Qe h (.loop dv c T H) o U
 | round l args H=>exact Qe h (.round l args H) o U
 | call f args H=>
  have U:(match eA.lG f args H with|some v=>some ⟨.ret,[v],H⟩|none=>match eA.pd f with|some c=>sB P f c dt args H|none=>step P dt (.call f args H))=some o:=U;show(match eA.lG f args H with|some v=>some ⟨.ret,[v],H⟩|none=>match eA.pd f with|some c=>sB P f c cP args H|none=>step P cP (.call f args H))=some o
  grind[am2,Qe]
theorem am4[eA](n:Nat):sC (e7 P n) (e7 P (n+1)):=by
 induction n with
 | zero=>intro t o h;cases h
 | succ n bg=>exact am3 bg
theorem xZ[eA]{n m:Nat}(h:n<=m):sC (e7 P n) (e7 P m):=by
 induction h with
 | refl=>grind
 | step _ bg=>grind[am4]
end
end Go.Ab
namespace Go.Ab
open Go
noncomputable section
abbrev fi:=Nat->Value
def put(ρ:fi)(d:Option Tmp)(v:Value):fi:=match d with
 | some d=>fun i=>cond (Nat.beq i d) v (ρ i)
 | none=>ρ
def e1(x:Operand)(ρ:fi):Value:=match x with
 | .tmp t=>ρ t
 | .const v=>v
 | .global g=>.pointer (some ⟨g,0,none⟩)
 | .func f=>.func (.func f) #[] #[]
def wK(l:List Operand)(ρ:fi):List Value:=List.rec (motive:=fun _=>List Value) [] (fun o _ bg=>e1 o ρ::bg) l
def KU(l:List (Nat×Operand))(ρ:fi):List (Nat×Value):=List.rec (motive:=fun _=>List (Nat×Value)) [] (fun p _ bg=>(p.1,e1 p.2 ρ)::bg) l
def KV(o:Option Operand)(ρ:fi):Option Value:=match o with
 | none=>none
 | some o=>some (e1 o ρ)
def rR(ρ:fi)(l:List Nat):List Value:=List.rec (motive:=fun _=>List Value) [] (fun i _ bg=>ρ i::bg) l
def Hn(l:List Value)(kQ:List Nat):Nat->Nat->Value:=
 List.rec (motive:=fun _=>Nat->Nat->Value) (fun _ _=>undef) (fun k _ bg p i=>cond (Nat.beq i k) (cf l p) (bg (Nat.succ p) i)) kQ
def mP(kQ:List Nat)(l:List Value):fi:=fun i=>Hn l kQ 0 i
def CH(x:Operand):Nat:=match x with|.tmp t=>Nat.shiftLeft 1 t|_=>0
def Ho(l:List Operand):Nat:=List.rec (motive:=fun _=>Nat) 0 (fun x _ bg=>Nat.lor (CH x) bg) l
def Hp(m d:Nat):Nat:=cond (iD m d) (Nat.xor m (Nat.shiftLeft 1 d)) m
def KW(m:Nat)(d:Option Tmp):Nat:=match d with|some d=>Hp m d|none=>m
def Qf(all:List Oper)(g:Option (Nat×Bool)):Option (Option Nat×Bool):=match g with
 | none=>none
 | some (j,c7)=>some ((o1 all j).bind (·.dst),c7)
def Hq(all:List Oper)(g:Option (Nat×Bool)):Nat:=match Qf all g with
 | some (some d,_)=>Nat.shiftLeft 1 d
 | _=>0
def EW(all l:List Oper)(N:Nat):Nat:=List.rec (motive:=fun _=>Nat) N (fun o _ bg=>Nat.lor (KW bg o.dst) (Nat.lor (Ho o.op.operands.toList) (Hq all o.guard))) l
def eO(c:Code):Nat->Nat->Nat:=
 Code.rec (motive:=fun _=>Nat->Nat->Nat)
  (fun N _=>N)
  (fun _ bD _ N _=>EW bD.toList bD.toList N)
  (fun _ _ a b N X=>a (b N X) X)
  (fun c _ _ a b N X=>Nat.lor (CH c) (Nat.lor (a N X) (b N X)))
  (fun _ _ a N X=>a N (Nat.lor N X))
  (fun _ a _ X=>a 0 X)
  (fun g _ _ _ a b N X=>Nat.lor (CH g) (Nat.lor (Nat.lor N X) (a (b 0 0) 0)))
  (fun _ _ X=>X)
  (fun _ _ _ _=>0)
  (fun _ N _=>N)
  (fun _ _ _=>0)
  (fun _ X=>X)
  (fun _ _ _=>0) c
def Ya(m n:Nat):List Nat:=Nat.rec (motive:=fun _=>List Nat->List Nat) (fun jR=>jR) (fun k bg jR=>bg (cond (iD m k) (k::jR) jR)) n []
def bits(n m:Nat):List Nat:=Ya m n
def am5(id:Nat)(c:Code):Nat:=
 Code.rec (motive:=fun _=>Nat) 0 (fun _ _ _=>0) (fun _ _ a b=>a+b) (fun _ _ _ a b=>a+b) (fun _ _ a=>a) (fun _ a=>a) (fun _ _ _ _ _ _=>0) (fun i=>cond (Nat.beq i id) 1 0) (fun _ _=>0) (fun _=>0) (fun _=>0) 0 (fun _=>0) c
def am6(l:List Oper):Bool:=not (kh (fun o=>match o.guard with|none=>true|some _=>false) l)
def Yb(c:Code):Nat:=
 Code.rec (motive:=fun _=>Nat) 0 (fun _ bD _=>gi bD.toList) (fun _ _ a b=>a+b) (fun _ _ _ a b=>a+b+4) (fun _ _ a=>a) (fun _ _=>9) (fun _ _ _ _ _ _=>9) (fun _=>0) (fun _ _=>0) (fun _=>0) (fun _=>0) 0 (fun _=>0) c
def lH(c:Code):Nat:=
 Code.rec (motive:=fun _=>Nat) 1 (fun _ bD _=>cond (am6 bD.toList) 2 1) (fun _ b KX CI=>cond (Nat.ble 2 KX&&Nat.ble 6 (Yb b)) CI (KX*CI)) (fun _ _ _ a b=>a+b) (fun id b a=>a+am5 id b) (fun _ _=>0) (fun _ _ _ _ _ _=>1) (fun _=>0) (fun _ _=>0) (fun _=>1) (fun _=>0) 0 (fun _=>0) c
def Yc(a b:Code):Bool:=Nat.ble 2 (lH a)&&Nat.ble 6 (Yb b)
def af(r:R)(aa:Value->au->Prop):Prop:=∃v ab,r=some (v,ab)/\aa v ab
def ad(r:Option Value)(aa:Value->Prop):Prop:=∃v,r=some v/\aa v
def aE(v:Value)(A B:Prop):Prop:=(v=.bool true->A)/\(v=.bool false->B)/\∃b,v=.bool b
def au.push(H:au)(aq:List Value):au:=⟨H.t.set H.next (some ⟨aq,true⟩),Nat.succ H.next,H.dS,H.ed⟩
def cG(aq:List Value)(H:au)(aa:Value->au->Prop):Prop:=aa (.pointer (some ⟨H.next,0,none⟩)) (H.push aq)
def e5(A:(List Value->au->Prop)->Prop)(B:List Value->au->Prop):Prop:=∃J,A J/\∀l H,J l H->B l H
def aI(c a b:Value):Option Value:=match c with|.bool t=>(match t with|true=>some a|false=>some b)|_=>none
def eD(i:Nat)(x:Value):Option Value:=match x with|.tuple vs=>o1 vs.toList i|_=>none
def ey(s:Nat->Bool)(lT:List Nat):Prop:=kh s lT=true
def qh(a b:List Nat):Prop:=oK a b=true
def nm(a:List Nat)(fm an:Nat):Prop:=Ae a fm an=true
def iw(k:IntKind)(x:Value)(H:au):R:=match x with|.int _ n=>some (.int k (iN k n),H)|_=>none
def bO(x:Value)(H:au):R:=match x with|.slice _ n _=>some (.int .i64 n,H)|_=>none
def CJ(x:Value)(H:au):R:=match x with|.string s=>some (.int .i64 (Int.ofNat (gi s.data.toList)),H)|_=>none
def df(P:Program)(t:TypeId):List Value:=match iL P t with|some z=>dr z|none=>[]
section
variable[eA](P:Program)
def y9(t:B3)(aa:Value->au->Prop):Prop:=∃n c6 v ab,e7 P n t=some ⟨c6,[v],ab⟩/\aa v ab
def ay(f:FuncId)(args:List Value)(H:au)(aa:Value->au->Prop):Prop:=y9 P (.call f args H) aa
def za(x:Option xG)(H:au)(aa:Value->au->Prop):Prop:=match x with
 | some t=>(match t with
  | .fn f args=>ay P f args H aa
  | .sm l args=>y9 P (.round l args H) aa)
 | none=>False
def Qg(H:au)(aa:Value->au->Prop):Prop:=aa (.map (some H.next)) (s4 H)
def Hr(op:Op)(ρ:fi)(H:au)(aa:Value->au->Prop):Prop:=match op with
 | .move x=>aa (e1 x ρ) H
 | .assign x=>aa (e1 x ρ) H
 | .pick c a b=>ad (aI (e1 c ρ) (e1 a ρ) (e1 b ρ)) fun v=>aa v H
 | .alloc t=>match iL P t with
  | some z=>cG (dr z) H aa
  | none=>False
 | .box _ x=>cG (dr (e1 x ρ)) H aa
 | .build t ie=>ad ((dq P t).f (KU ie.toList ρ)) fun v=>aa v H
 | .buildSlice t len ie=>af ((eV P t len).f (KU ie.toList ρ) H) aa
 | .load t a=>af ((oI P t).f (e1 a ρ) H) aa
 | .store t a x=>match hk P t with
  | some n=>af (bx n (e1 a ρ) (e1 x ρ) H) aa
  | none=>False
 | .nilCheck x=>ad (pG (e1 x ρ)) fun v=>aa v H
 | .binOp op t x y _=>ad ((ar P op t (wk x||wk y)).f (e1 x ρ) (e1 y ρ)) fun v=>aa v H
 | .unOp op _ x=>ad (hx op (e1 x ρ)) fun v=>aa v H
 | .convert s d x=>af ((BV P s d).f (e1 x ρ) H) aa
 | .makeInterface t x=>match P.underlying t with
  | some (.interface _)=>False
  | some _=>aa (.iface t (e1 x ρ)) H
  | none=>False
 | .makeFunc fn first cap=>match fn with
  | .func f=>aa (.func (.func f) (wK first.toList ρ).toArray (wK cap.toList ρ).toArray) H
  | _=>False
 | .makeSlice t l c=>af ((rD P t).f (e1 l ρ) (e1 c ρ) H) aa
 | .slice t x fm an hy=>ad ((Ju P t).f (e1 x ρ) (KV fm ρ) (KV an ρ) (KV hy ρ) H) fun v=>aa v H
 | .fieldAddr s x f=>ad ((Aa P s f).f (e1 x ρ)) fun v=>aa v H
 | .field t x f=>ad ((Jz P t f).f (e1 x ρ)) fun v=>aa v H
 | .indexAddr t x i=>ad ((Jw P t).f (e1 x ρ) (e1 i ρ)) fun v=>aa v H
 | .index t x i=>ad ((Jy P t).f (e1 x ρ) (e1 i ρ)) fun v=>aa v H
 | .typeAssert x _ a ok=>ad ((BZ P a ok).f (e1 x ρ)) fun v=>aa v H
 | .extract x i=>ad (eD i (e1 x ρ)) fun v=>aa v H
 | .call c=>match c.callee with
  | .builtin b=>af ((u5 P b c.argTypes.toList).f (wK c.args.toList ρ) H) aa
  | .value f=>za P (vb (e1 f ρ) (wK c.args.toList ρ)) H aa
  | .invoke r name=>za P (Ow P name (e1 r ρ) (wK c.args.toList ρ)) H aa
 | .makeMap _ r=>match r with
  | none=>Qg H aa
  | some _=>False
 | .lookup t x i ok=>af (xF P t ok (e1 x ρ) (e1 i ρ) H) aa
 | .mapUpdate t m k x=>af (u9 P t (e1 m ρ) (e1 k ρ) (e1 x ρ) H) aa
 | .insert t m k x=>af (u9 P t (e1 m ρ) (e1 k ρ) (e1 x ρ) H) aa
 | _=>False
def EX(op:Op)(ρ:fi)(H:au)(aa:Value->au->Prop):Prop:=match kh (wt P) op.operands.toList with
 | true=>Hr P op ρ H aa
 | false=>False
inductive kR where
 | mL|ld|undef|any
def zb(l:List (Nat×kR))(d:Nat):kR:=List.rec (motive:=fun _=>kR) .any (fun x _ bg=>cond (Nat.beq x.1 d) x.2 bg) l
def zc(l:List (Nat×kR))(d:Option Tmp)(k:kR):List (Nat×kR):=match d with|some d=>(d,k)::l|none=>l
def x0(du:List (Nat×kR))(x:Operand):kR:=match x with
 | .tmp t=>zb du t
 | .const v=>match v with
  | .bool b=>(match b with|true=>.mL|false=>.ld)
  | _=>.any
 | _=>.any
def AF(du:List (Nat×kR))(op:Op):kR:=match op with
 | .pick c a b=>match x0 du c with
  | .mL=>x0 du a
  | .ld=>x0 du b
  | _=>.any
 | .move x=>x0 du x
 | .assign x=>x0 du x
 | _=>.any
def KY(n:Nat)(d:Option Tmp):Bool:=match d with|some d=>Nat.blt d n|none=>true
def EY(n:Nat)(all:List Oper)(o:Oper)(Hs skip:List (Nat×kR)->Prop)(du:List (Nat×kR))(ρ:fi):Prop:=match KY n o.dst with
 | false=>False
 | true=>match Qf all o.guard with
  | none=>Hs du
  | some (ds,c7)=>match ds with
   | none=>skip du
   | some d=>match zb du d with
    | .mL=>cond c7 (Hs du) (skip du)
    | .ld=>cond c7 (skip du) (Hs du)
    | .undef=>skip du
    | .any=>cond c7 (aE (ρ d) (Hs ((d,.mL)::du)) (skip ((d,.ld)::du))) (aE (ρ d) (skip ((d,.mL)::du)) (Hs ((d,.ld)::du)))
def KZ(n:Nat)(all l:List Oper)(aa:fi->au->Prop):List (Nat×kR)->fi->au->Prop:=
 List.rec (motive:=fun _=>List (Nat×kR)->fi->au->Prop) (fun _ ρ H=>aa ρ H)
  (fun o _ bg du ρ H=>EY n all o (fun eE=>EX P o.op ρ H fun v ab=>bg (zc eE o.dst (AF eE o.op)) (put ρ o.dst v) ab) (fun eE=>bg (zc eE o.dst .undef) (put ρ o.dst undef) H) du ρ) l
def EZ(o:Oper)(p:nD)(ρ:fi)(H ab:au):mD:=⟨p.cZ,p.e0,match p.e0 with|1=>cm (wK o.op.operands.toList ρ)|4=>cm (wK o.op.operands.toList ρ)|_=>[],H.next,ab.next,match p.e0 with|3=>en H ab|_=>fun _=>false⟩
def CK(k j:mD)(X:Prop):Prop:=match k.e0 with
 | 0=>X
 | 1=>match j.e0 with
  | 3=>ey j.oJ k.lT/\X
  | 4=>qh k.lT j.lT/\X
  | _=>X
 | 2=>match j.e0 with
  | 0=>X
  | 1=>nm j.lT k.fm k.an/\X
  | 2=>X
  | 4=>nm j.lT k.fm k.an/\X
  | _=>False
 | 3=>match j.e0 with
  | 0=>X
  | 1=>ey k.oJ j.lT/\X
  | 2=>X
  | _=>False
 | 4=>match j.e0 with
  | 0=>X
  | 1=>qh k.lT j.lT/\nm j.lT k.fm k.an/\X
  | 2=>X
  | _=>False
 | _=>False
def K0(lS:Nat)(j:mD)(dI:List mD)(X:Prop):Prop:=match j.e0 with
 | 0=>X
 | _=>List.rec (motive:=fun _=>Prop) X (fun k _ bg=>cond (iD lS k.cZ) bg (CK k j bg)) dI
def am7(bB H:au):Prop:=Nat.beq bB.next H.next=true
def K1(p:nD)(op:Op)(ρ:fi)(H:au)(aa:Value->au->Prop):Prop:=match p.l8 with
 | true=>EX P op ρ (l8 H) fun v bB=>am7 bB H/\aa v H
 | false=>EX P op ρ H aa
def K2(n:Nat)(all:List Oper)(l:List (Oper×nD))(aa:fi->au->Prop):List (Nat×kR)->fi->au->List mD->Prop:=
 List.rec (motive:=fun _=>List (Nat×kR)->fi->au->List mD->Prop) (fun _ ρ H _=>aa ρ H)
  (fun o _ bg du ρ H dI=>EY n all o.1 (fun eE=>K1 P o.2 o.1.op ρ H fun v ab=>K0 o.2.lS (EZ o.1 o.2 ρ H ab) dI (bg (zc eE o.1.dst (AF eE o.1.op)) (put ρ o.1.dst v) ab (EZ o.1 o.2 ρ H ab::dI)))
   (fun eE=>bg (zc eE o.1.dst .undef) (put ρ o.1.dst undef) H dI) du ρ) l
def Qh(n:Nat)(bD:List Oper)(d:Bool)(ρ:fi)(H:au)(aa:fi->au->Prop):Prop:=match d with
 | true=>match Oy bD with
  | true=>K2 P n bD (s6 P bD) aa [] ρ H []
  | false=>False
 | false=>KZ P n bD bD aa [] ρ H
def zd(kQ:List Nat)(ρ:fi)(T:List Value):Prop:=∀i,i∈kQ->cf T i=ρ i
def Qi(bC:Nat->List Value->au->Prop)(ch:List Value->au->Prop):nz->List Value->au->Prop
 | .normal=>fun _ _=>False
 | .exit id=>bC id
 | .ret=>ch
def eJ(dv:Bool)(n:Nat)(b:Code)(X:Nat)(ml:List Value)(H:au)(bC:Nat->List Value->au->Prop)(ch:List Value->au->Prop):Prop:=
 ∀T,T.length=n->zd (bits n (eO b 0 X)) (mP (bits n (eO b 0 X)) ml) T->
  ∃m o,e7 P m (.loop dv b T H)=some o/\o.T.length=n/\∃l,zd (bits n X) (mP (bits n X) l) o.T/\Qi bC ch o.c6 l o.H
def Ht(J:fi->au->Prop)(Q:nz->fi->au->Prop):nz->fi->au->Prop
 | .normal=>J
 | .exit id=>Q (.exit id)
 | .ret=>Q .ret
def Yd(id:Nat)(Q:nz->fi->au->Prop):nz->fi->au->Prop
 | .normal=>Q .normal
 | .exit i=>fun ρ H=>cond (Nat.beq i id) (Q .normal ρ H) (Q (.exit i) ρ H)
 | .ret=>Q .ret
def Ye(n:Nat)(b:Code)(X:Nat)(N:List Value->au->Prop)(bC:Nat->List Value->au->Prop)(ch:List Value->au->Prop):nz->fi->au->Prop
 | .normal=>fun ρ H=>N (rR ρ (bits n (eO b 0 X))) H
 | .exit id=>fun ρ H=>bC id (rR ρ (bits n X)) H
 | .ret=>fun ρ H=>ch (rR ρ (bits n X)) H
def Yf(N:au->Prop)(bC:Nat->au->Prop)(ch:au->Prop):nz->au->Prop
 | .normal=>N
 | .exit id=>bC id
 | .ret=>ch
def tj(c9 body:Code):Nat:=eO c9 (eO body 0 0) 0
def Hu(n:Nat)(bw:List Tmp)(c9 body:Code)(ml:List Value)(g:Value)(H:au)(N:au->Prop)(bC:Nat->au->Prop)(ch:au->Prop):Prop:=
 ∀T,T.length=n->zd (bits n (tj c9 body)) (mP (bits n (tj c9 body)) ml) T->
  ∃m o,wy (e7 P m) g bw c9 body T H=some o/\o.T=T/\Yf N bC ch o.c6 o.H
def Qj(g:Operand)(ρ:fi):Value:=match g with|.tmp t=>ρ t|_=>undef
def am8(c:Code):List (List Tmp×Code×Code):=
 Code.rec (motive:=fun _=>List (List Tmp×Code×Code)) [] (fun _ _ _=>[]) (fun _ _ a b=>iC a b) (fun _ _ _ a b=>iC a b) (fun _ _ a=>a) (fun _ a=>a) (fun _ bw c9 body a b=>(bw.toList,c9,body)::iC a b) (fun _=>[]) (fun _ a=>a) (fun _=>[]) (fun _=>[]) [] (fun _=>[]) c
def am9(c:Code):List Code:=
 Code.rec (motive:=fun _=>List Code) [] (fun _ _ _=>[]) (fun _ _ a b=>iC a b) (fun _ _ _ a b=>iC a b) (fun _ _ a=>a) (fun b a=>b::a) (fun _ _ _ _ a b=>iC a b) (fun _=>[]) (fun _ a=>a) (fun _=>[]) (fun _=>[]) [] (fun _=>[]) c
def Yg(P:Program)(f:FuncId):Code:=match P.funcs.toList[f]? with
 | some fn=>(match fn.body with|some c=>c|none=>.skip)
 | none=>.skip
def hb(P:Program)(f:FuncId)(i:Nat):Code:=match o1 (am9 (Yg P f)) i with
 | some b=>b
 | none=>.skip
def Yh(P:Program)(f:FuncId)(i:Nat):List Tmp×Code×Code:=match o1 (am8 (Yg P f)) i with
 | some b=>b
 | none=>([],.skip,.skip)
def qS(dv:Bool)(n:Nat)(c:Code):Nat->Nat->fi->au->(nz->fi->au->Prop)->Prop:=
 Code.rec (motive:=fun _=>Nat->Nat->fi->au->(nz->fi->au->Prop)->Prop)
  (fun _ _ ρ H Q=>Q .normal ρ H)
  (fun _ bD d _ _ ρ H Q=>Qh P n bD.toList d ρ H (Q .normal))
  (fun a b wW nn N X ρ H Q=>match Yc a b with
   | true=>e5 (fun J=>wW (eO b N X) X ρ H (Ht (fun ρ H=>J (rR ρ (bits n (eO b N X))) H) Q)) (fun l H=>nn N X (mP (bits n (eO b N X)) l) H Q)
   | false=>wW (eO b N X) X ρ H (Ht (fun ρ H=>nn N X ρ H Q) Q))
  (fun c _ _ wW nn N X ρ H Q=>aE (e1 c ρ) (wW N X ρ H Q) (nn N X ρ H Q))
  (fun id _ nn N X ρ H Q=>nn N (Nat.lor N X) ρ H (Yd id Q))
  (fun b _ _ X ρ H Q=>match Nat.beq (eO b (eO b 0 X) X) (eO b 0 X)with
   | true=>eJ P dv n b X (rR ρ (bits n (eO b 0 X))) H (fun id l H=>Q (.exit id) (mP (bits n X) l) H) (fun l H=>Q .ret (mP (bits n X) l) H)
   | false=>False)
  (fun g bw c9 body _ _ _ _ ρ H Q=>match dv with
   | true=>Hu P n bw.toList c9 body (rR ρ (bits n (tj c9 body))) (Qj g ρ) H (Q .normal ρ) (fun id=>Q (.exit id) ρ) (Q .ret ρ)
   | false=>False)
  (fun id _ _ ρ H Q=>Q (.exit id) ρ H)
  (fun _ _ _ _ _ _ _=>False)
  (fun _ _ _ ρ H Q=>Q .normal ρ H)
  (fun _ _ _ _ _ _=>False)
  (fun _ _ ρ H Q=>Q .ret ρ H)
  (fun _ _ _ _ _ _=>False) c
def K3(bw:List Tmp)(args:List Value):Nat->fi->fi:=List.rec (motive:=fun _=>Nat->fi->fi) (fun _ ρ=>ρ) (fun p _ bg k ρ=>bg (Nat.succ k) (put ρ (some p) (cf args k))) bw
def Hv(l:Nat)(H:au)(aa:au->Prop):Prop:=∃cJ,Ca l H=some cJ/\aa cJ
def E0(l:Nat)(e:nz)(H:au)(aa:Value->au->Prop):Prop:=∃cJ,wz l (Ep e) H=some cJ/\aa (.bool (Ah e)) cJ
def ana(l:Nat)(B:fi->au->Prop):nz->fi->au->Prop
 | .normal=>fun ρ H=>Hv l H (B ρ)
 | .exit _=>fun _ _=>False
 | .ret=>fun _ _=>False
def K4(n:Nat)(bw:List Tmp)(c9 body:Code)(ml args:List Value)(l:Nat)(H:au)(aa:Value->au->Prop):Prop:=
 qS P false n c9 (eO body 0 0) 0 (K3 bw args 0 (mP (bits n (tj c9 body)) ml)) H (ana l fun ρ H=>qS P false n body 0 0 ρ H fun e _ H=>E0 l e H aa)
def K5(r:ResultVar)(ρ:fi)(H:au)(aa:Value->Prop):Prop:=match r with
 | .tmp t=>aa (ρ t)
 | .cell a t=>af ((oI P t).f (ρ a) H) fun v _=>aa v
def Qk(dI:List ResultVar)(ρ:fi)(H:au):(List Value->Prop)->Prop:=
 List.rec (motive:=fun _=>(List Value->Prop)->Prop) (fun k=>k []) (fun r _ bg k=>K5 P r ρ H fun v=>bg fun vs=>k (v::vs)) dI
def E4(dI:List ResultVar)(ρ:fi)(H:au)(aa:Value->au->Prop):Prop:=match dI with
 | [r]=>K5 P r ρ H fun v=>aa v H
 | dI=>Qk P dI ρ H fun vs=>aa (.tuple vs.toArray) H
def K6(r:ResultVar):Nat:=match r with|.tmp t=>Nat.shiftLeft 1 t|.cell a _=>Nat.shiftLeft 1 a
def x1(dI:List ResultVar):Nat:=List.rec (motive:=fun _=>Nat) 0 (fun r _ bg=>Nat.lor (K6 r) bg) dI
def Yi(dI:List ResultVar)(aa:Value->au->Prop):nz->fi->au->Prop
 | .normal=>fun ρ H=>E4 P dI ρ H aa
 | .exit _=>fun _ _=>False
 | .ret=>fun ρ H=>E4 P dI ρ H aa
def AG(f:FuncId)(args:List Value)(H:au)(aa:Value->au->Prop):Prop:=match P.funcs.toList[f]? with
 | some fn=>match fn.body with
  | some c=>match Nat.ble (gi args) fn.ntmps with
   | true=>qS P true fn.ntmps c (x1 fn.results.toList) (x1 fn.results.toList) (fun i=>cf args i) H (Yi P fn.results.toList aa)
   | false=>False
  | none=>False
 | none=>False
end
end
end Go.Ab
namespace Go.Ab
open Go
local instance:h7:=⟨fun _=>none,0⟩
theorem Yj(a b i:Nat):iD (Nat.lor a b) i=(iD a i||iD b i):=by rw[wQ,wQ,wQ,show Nat.lor a b=a|||b from rfl,testBit_or]
theorem E5(t i:Nat):iD (Nat.shiftLeft 1 t) i=decide (t=i):=by
 rw[wQ,show Nat.shiftLeft 1 t=1<<<t from rfl,testBit_shiftLeft]
 grind[testBit_one_eq_true_iff_self_eq_zero]
theorem Yk(m d i:Nat):iD (Hp m d) i=(iD m i&&decide (d≠i)):=by
 unfold Hp;cases ak:iD m d with
 | true=>
  simp only[cond_true];rw[wQ,show Nat.xor m (Nat.shiftLeft 1 d)=m ^^^ (1<<<d)from rfl,testBit_xor,<- wQ,<- wQ,show(1<<<d)=Nat.shiftLeft 1 d from rfl,E5]
  grind
 | false=>grind
def je(m:Nat)(ρ:fi)(T:List Value):Prop:=∀i,iD m i=true->cf T i=ρ i
theorem je.or{a b:Nat}{ρ:fi}{T:List Value}(h:je (Nat.lor a b) ρ T):je a ρ T/\je b ρ T:=
 ⟨fun i an=>h i (by grind[Yj]),fun i an=>h i (by rw[Yj,an,Bool.or_true])⟩
theorem Ql{T:List Value}{d i:Nat}{v:Value}(aO:d<T.length):cf (hs T d v) i=if d=i then v else cf T i:=by
 rw[pJ,pI,pI,getD_eq_getElem?_getD,getD_eq_getElem?_getD]
 grind
theorem Hw{m n:Nat}{ρ:fi}{T:List Value}{d:Option Tmp}{v:Value}(aD:T.length=n)(aO:KY n d=true)(h:je (KW m d) ρ T):je m (put ρ d v) (iO T d v):=by
 cases d with
 | none=>exact h
 | some d=>
  have aO:d<T.length:=by rw[aD];have:Nat.blt d n=true:=aO;simp_all
  intro i an;show cf (hs T d v) i=cond (Nat.beq i d) v (ρ i);rw[Ql aO];by_cases he:d=i
  simp_all
  rw[if_neg he];have:Nat.beq i d=false:=by grind[eq_of_beq_eq_true]
  rw[this];refine h i ?_;show iD (Hp m d) i=true
  simp_all[Yk]
theorem K7{T:List Value}{d:Option Tmp}{v:Value}:(iO T d v).length=T.length:=Kr
theorem anb(l:List Operand)(ρ:fi):wK l ρ=l.map (e1 · ρ):=by
 induction l with
 | nil=>rfl
 | cons x r bg=>simp_all[wK]
theorem Qm{x:Operand}{ρ:fi}{T:List Value}(h:je (CH x) ρ T):(ek x).g T=e1 x ρ:=by
 cases x with
 | tmp t=>exact h t (by show iD (Nat.shiftLeft 1 t) t=true;rw[E5];simp)
 | _=>rfl
theorem Qn{l:List Operand}{ρ:fi}{T:List Value}(h:je (Ho l) ρ T):∀x∈l,(ek x).g T=e1 x ρ:=by
 induction l with
 | nil=>simp
 | cons x r bg=>
  have h:je (Nat.lor (CH x) (Ho r)) ρ T:=h;intro y ba;rcases mem_cons.1 ba with rfl|ba
  exact Qm h.or.1;exact bg h.or.2 y ba
theorem Hx{l:List Operand}{ρ:fi}{T:List Value}(h:∀x∈l,(ek x).g T=e1 x ρ):kO l T=wK l ρ:=by simp_all[EC,anb]
theorem Yl{l:List (Nat×Operand)}{ρ:fi}{T:List Value}(h:∀p∈l,(ek p.2).g T=e1 p.2 ρ):u7 l T=KU l ρ:=by
 induction l with
 | nil=>rfl
 | cons p r bg=>grind[u7,KU]
theorem Qo{o:Option Operand}{ρ:fi}{T:List Value}(h:∀x,o=some x->(ek x).g T=e1 x ρ):B0 o T=KV o ρ:=by
 cases o with
 | none=>rfl
 | some x=>show some _=some _;grind
section
variable{P:Program}[eA]
theorem x2{r:Option Value}{H:au}{aa:Value->au->Prop}(h:ad r fun v=>aa v H):∃v ab,fZ H r=some (v,ab)/\aa v ab:=by obtain⟨v,rfl,ah⟩:=h;exact⟨v,H,rfl,ah⟩
theorem Ym{aq:List Value}{H:au}{aa:Value->au->Prop}(h:cG aq H aa):∃v ab,yJ aq H=some (v,ab)/\aa v ab:=⟨_,_,rfl,h⟩
def anc:Op->Bool
 | .makeMap _ _=>true
 | .lookup _ _ _ _=>true
 | .mapUpdate _ _ _ _=>true
 | .insert _ _ _ _=>true
 | _=>false
theorem Yn{op:Op}{ρ:fi}{T:List Value}{H:au}{aa:Value->au->Prop}(kk:∀x∈op.operands.toList,(ek x).g T=e1 x ρ)(G4:∀c,op=.call c->∃b,c.callee=.builtin b)(G8:anc op=false)(h:Hr P op ρ H aa):
  ∃v ab,(kP P op).f T H=some (v,ab)/\aa v ab:=by
 cases op<;>first|(cases G8;done)|skip
 all_goals (simp only[Hr]at h<;>simp only[kP]<;>first|exact h.elim|skip)
 case move x=>grind[Op.operands]
 case assign x=>grind[Op.operands]
 case pick c a b=>
  obtain⟨v,hv,ah⟩:=h
  grind[Op.operands,aI]
 case alloc t=>grind[Ym]
 case box t x=>simp_all[Op.operands,Ym]
 case build t ie=>rw[Yl fun p bJ=>kk p.2 (by grind[Op.operands])];exact x2 h
 case buildSlice t len ie=>rw[Yl fun p bJ=>kk p.2 (by grind[Op.operands])];exact h
 case load t a=>rw[kk a (by simp[Op.operands])];exact h
 case store t a x=>
  cases dU:hk P t with
  | some z=>rw[dU]at h;simp only;rw[kk a (by simp[Op.operands]),kk x (by simp[Op.operands])];exact h
  | none=>simp_all
 case nilCheck x=>simp_all[Op.operands,x2]
 case binOp o t x y z=>simp_all[Op.operands,x2]
 case unOp o t x=>simp_all[Op.operands,x2]
 case convert s d x=>rw[kk x (by simp[Op.operands])];exact h
 case makeInterface t x=>grind[Op.operands]
 case makeFunc fn first cap=>
  cases fn<;>first|exact h.elim|skip
  grind[Hx,Op.operands]
 case makeSlice t l c=>rw[kk l (by simp[Op.operands]),kk c (by simp[Op.operands])];exact h
 case slice t x fm an hy=>rw[kk x (by simp[Op.operands]),Qo fun y e=>kk y (by simp_all[Op.operands]),Qo fun y e=>kk y (by simp_all[Op.operands]),Qo fun y e=>kk y (by simp_all[Op.operands])];exact x2 h
 case fieldAddr s x f=>simp_all[Op.operands,x2]
 case field t x f=>simp_all[Op.operands,x2]
 case indexAddr t x i=>simp_all[Op.operands,x2]
 case index t x i=>simp_all[Op.operands,x2]
 case typeAssert x t a ok=>simp_all[Op.operands,x2]
 case extract x i=>
  rw[kk x (by simp[Op.operands])];obtain⟨v,hv,ah⟩:=h;unfold eD at hv;split at hv
  ·rename_i vs he;rw[he];exact⟨v,H,by simp only[hv];rfl,ah⟩
  grind
 case call c=>obtain⟨b,ak⟩:=G4 c rfl;rw[ak]at h⊢;simp only at h⊢;rw[Hx fun z dU=>kk z (by simp_all[Op.operands,Call.operands])];exact h
theorem ane{t:xG}{H:au}{aa:Value->au->Prop}(h:za P (some t) H aa):∃m v ab,vc (e7 P m) (some t) H=some (v,ab)/\aa v ab:=by
 cases t with
 | fn f args=>
  obtain⟨n,c6,v,ab,h1,h2⟩:=h
  grind[vc,JA]
 | sm l args=>
  obtain⟨n,c6,v,ab,h1,h2⟩:=h
  grind[vc,JA]
theorem Yo{x:Option xG}{H:au}{aa:Value->au->Prop}(h:za P x H aa):∃m v ab,vc (e7 P m) x H=some (v,ab)/\aa v ab:=by
 cases x with
 | none=>exact h.elim
 | some t=>exact ane h
theorem Qp{op:Op}{ρ:fi}{T:List Value}{H:au}{aa:Value->au->Prop}(kk:∀x∈op.operands.toList,(ek x).g T=e1 x ρ)(h:EX P op ρ H aa):
  ∃m v ab,(iu P op).f (e7 P m) T H=some (v,ab)/\aa v ab:=by
 unfold EX at h;split at h
 case h_2=>grind
 case h_1 fq=>
 unfold iu;rw[fq];simp only;unfold yL;split
 ·rename_i c;split
  ·rename_i b ak;obtain⟨v,ab,h1,h2⟩:=Yn kk (fun bV e=>by simp_all) rfl h;exact⟨0,v,ab,h1,h2⟩
  ·grind[Hr,Op.operands,Call.operands,Hx,Yo]
  grind[Hr,Op.operands,Call.operands,Hx,Yo]
 ·rename_i t r;cases r with
  | none=>exact⟨0,_,_,rfl,h⟩
  | some y=>exact h.elim
 ·rename_i t x i ok;obtain⟨v,ab,h1,h2⟩:=h;refine⟨0,v,ab,?_,h2⟩
  simp_all[Op.operands]
 ·rename_i t m k x;obtain⟨v,ab,h1,h2⟩:=h;refine⟨0,v,ab,?_,h2⟩
  simp_all[Op.operands]
 ·rename_i t m k x;obtain⟨v,ab,h1,h2⟩:=h;refine⟨0,v,ab,?_,h2⟩
  simp_all[Op.operands]
 ·rename_i dC E6 K8 anf aFs;obtain⟨v,ab,h1,h2⟩:=Yn kk (fun c e=>absurd e (dC c)) (by cases op<;>first|rfl|exact absurd rfl (E6 _ _)|exact absurd rfl (K8 _ _ _ _)|exact absurd rfl (anf _ _ _ _)|grind) h;exact⟨0,v,ab,h1,h2⟩
def wX(T:List Value)(d:Nat):kR->Prop
 | .mL=>cf T d=.bool true
 | .ld=>cf T d=.bool false
 | .undef=>cf T d=Go.undef
 | .any=>True
def sD(du:List (Nat×kR))(T:List Value):Prop:=∀d,wX T d (zb du d)
theorem Yp(x:Nat×kR)(l:List (Nat×kR))(d:Nat):zb (x::l) d=if x.1=d then x.2 else zb l d:=by
 show cond (Nat.beq x.1 d) x.2 (zb l d)=_
 simp_all
theorem sD.cons{du:List (Nat×kR)}{T:List Value}(h:sD du T){d:Nat}{k:kR}(ah:wX T d k):sD ((d,k)::du) T:=fun i=>by
 rw[Yp];split
 simp_all
 exact h i
theorem sD.put{du:List (Nat×kR)}{T:List Value}{n:Nat}(aD:T.length=n){d:Option Tmp}(aO:KY n d=true)(h:sD du T){v:Value}{k:kR}(ah:∀dA x,cf dA x=v->wX dA x k):sD (zc du d k) (iO T d v):=by
 cases d with
 | none=>exact h
 | some d=>
  have aO:d<T.length:=by rw[aD];have:Nat.blt d n=true:=aO;simp_all
  have oJ:cf (hs T d v) d=v:=by simp_all[Ql]
  intro i;show wX (hs T d v) i (zb ((d,k)::du) i);rw[Yp];split
  simp_all
  rename_i e;have e:¬d=i:=e;have an:=h i;have bt:cf (hs T d v) i=cf T i:=by simp_all[Ql]
  simp_all[wX]
theorem Hy{du:List (Nat×kR)}{T:List Value}(ah:sD du T)(x:Operand):∀dA i,cf dA i=(ek x).g T->wX dA i (x0 du x):=by
 intro dA i h;cases x with
 | tmp t=>
  have:=ah t;have h:cf dA i=cf T t:=h;show wX dA i (zb du t)
  simp_all[wX]
 | const v=>
  cases v<;>first|trivial|skip
  rename_i b;cases b<;>exact h
 | _=>trivial
theorem Qq{du:List (Nat×kR)}{T:List Value}{m:Nat}{op:Op}{H ab:au}{v:Value}(ah:sD du T)(h:(iu P op).f (e7 P m) T H=some (v,ab)):∀dA i,cf dA i=v->wX dA i (AF du op):=by
 intro dA i hv;cases op<;>first|trivial|skip
 case move x=>
  unfold iu at h;split at h
  ·cases h;exact Hy ah x dA i hv
  ·cases h
 case assign x=>
  unfold iu at h;split at h
  ·cases h;exact Hy ah x dA i hv
  ·cases h
 case pick c a b=>
  unfold iu at h;split at h
  case h_2=>cases h
  case h_1=>
  have h:(match (ek c).g T with|.bool t=>(match t with|true=>some ((ek a).g T,H)|false=>some ((ek b).g T,H))|_=>none)=some (v,ab):=h;have aB:=Hy ah c [(ek c).g T] 0 rfl;show wX dA i (match x0 du c with|.mL=>x0 du a|.ld=>x0 du b|_=>.any);cases hkc:x0 du c with
  | mL=>
   rw[hkc]at aB;rw[show(ek c).g T=.bool true from aB]at h
   grind[Hy]
  | ld=>
   rw[hkc]at aB;rw[show(ek c).g T=.bool false from aB]at h
   grind[Hy]
  | undef=>trivial
  | any=>trivial
theorem Yq{n:Nat}{all:List Oper}{o:Oper}{A B:List (Nat×kR)->Prop}{du:List (Nat×kR)}{ρ:fi}{T:List Value}(ah:sD du T)(jX:je (Hq all o.guard) ρ T)(h:EY n all o A B du ρ):
  KY n o.dst=true/\(((iT all o.guard).f T=true/\∃eE,sD eE T/\A eE)\/((iT all o.guard).f T=false/\∃eE,sD eE T/\B eE)):=by
 unfold EY at h;split at h
 case h_1=>grind
 case h_2 aO=>
 refine⟨aO,?_⟩;cases hg:o.guard with
 | none=>rw[hg]at h;exact .inl ⟨rfl,du,ah,h⟩
 | some Cx=>
  obtain⟨j,c7⟩:=Cx;rw[hg]at h jX;have al:Qf all (some (j,c7))=some ((o1 all j).bind (·.dst),c7):=rfl;rw[al]at h;simp only at h;have KX:o1 all j=all[j]?:=wB _ _;cases ak:(all[j]?).bind (·.dst)with
  | none=>grind[iT]
  | some d=>
   rw[KX,ak]at h;simp only at h;have aM:(iT all (some (j,c7))).f T=(match cf T d with|.bool b=>b==c7|_=>false):=by grind[iT]
   have rM:=ah d;have Co:cf T d=ρ d:=jX d (by grind[Hq,E5]);rw[aM];cases hgk:zb du d with
   | mL=>
    rw[hgk]at h rM;rw[show cf T d=.bool true from rM]
    grind
   | ld=>
    rw[hgk]at h rM;rw[show cf T d=.bool false from rM]
    grind
   | undef=>rw[hgk]at h rM;rw[show cf T d=Go.undef from rM];exact .inr ⟨rfl,du,ah,h⟩
   | any=>
    rw[hgk]at h;rw[Co];cases c7 with
    | true=>
     obtain⟨h1,h2,t,ht⟩:=(show aE (ρ d) (A ((d,.mL)::du)) (B ((d,.ld)::du))from h);rw[ht];cases t with
     | true=>exact .inl ⟨rfl,_,ah.cons (d:=d) (k:=.mL) (show cf T d=.bool true from Co.trans ht),h1 ht⟩
     | false=>exact .inr ⟨rfl,_,ah.cons (d:=d) (k:=.ld) (show cf T d=.bool false from Co.trans ht),h2 ht⟩
    | false=>
     obtain⟨h1,h2,t,ht⟩:=(show aE (ρ d) (B ((d,.mL)::du)) (A ((d,.ld)::du))from h);rw[ht];cases t with
     | true=>exact .inr ⟨rfl,_,ah.cons (d:=d) (k:=.mL) (show cf T d=.bool true from Co.trans ht),h1 ht⟩
     | false=>exact .inl ⟨rfl,_,ah.cons (d:=d) (k:=.ld) (show cf T d=.bool false from Co.trans ht),h2 ht⟩
theorem Qr{n N:Nat}{all:List Oper}{aa:fi->au->Prop}:∀(l:List Oper) (du:List (Nat×kR)) (ρ:fi) (T:List Value) (H:au),T.length=n->je (EW all l N) ρ T->sD du T->KZ P n all l aa du ρ H->
  ∃m o,jQ P (e7 P m) all l T H=some o/\o.c6=.normal/\o.T.length=n/\∃ k5,je N k5 o.T/\aa k5 o.H
 | [],du,ρ,T,H,aD,bn,ah,h=>⟨0,_,rfl,rfl,aD,ρ,bn,h⟩
 | o::l,du,ρ,T,H,aD,bn,ah,h=>by
  have bn:je (Nat.lor (KW (EW all l N) o.dst) (Nat.lor (Ho o.op.operands.toList) (Hq all o.guard))) ρ T:=bn;have h:EY n all o (fun eE=>EX P o.op ρ H fun v ab=>KZ P n all l aa (zc eE o.dst (AF eE o.op)) (put ρ o.dst v) ab) (fun eE=>KZ P n all l aa (zc eE o.dst .undef) (put ρ o.dst undef) H) du ρ:=h;obtain⟨cU,cR⟩:=bn.or;obtain⟨cR,a3⟩:=cR.or;obtain⟨aO,hg⟩:=Yq ah a3 h;rcases hg with⟨aM,eE,gF,hA⟩|⟨aM,eE,gF,b6⟩
  obtain⟨fw,v,ab,h1,h2⟩:=Qp (Qn cR) hA;obtain⟨dV,dL,cg,cd,g3,g4⟩:=Qr l _ _ _ _ (K7.trans aD) (Hw aD aO cU) (gF.put aD aO (k:=AF eE o.op) (Qq gF h1)) h2;refine⟨max fw dV,dL,?_,cd,g3,g4⟩;show gW P (e7 P (max fw dV)) o ((iT all o.guard).f T) T H (jQ P (e7 P (max fw dV)) all l)=some dL;rw[aM];unfold gW;simp only[KR (xZ (Nat.le_max_left fw dV)) h1];exact KS (xZ (Nat.le_max_right fw dV)) _ _ _ _ _ cg;obtain⟨dV,dL,cg,cd,g3,g4⟩:=Qr l _ _ _ _ (K7.trans aD) (Hw aD aO cU) (gF.put aD aO (k:=.undef) fun _ _ e=>e) b6;refine⟨dV,dL,?_,cd,g3,g4⟩;show gW P (e7 P dV) o ((iT all o.guard).f T) T H (jQ P (e7 P dV) all l)=some dL;rw[aM];exact cg
theorem ang{k j:mD}{X:Prop}(h:CK k j X):tZ k j=true/\X:=by
 unfold CK at h;unfold tZ;split at h
 simp_all
 rename_i e;rw[e];simp only;split at h;rename_i bt;rw[bt];exact h;rename_i bt;rw[bt];exact h
 simp_all
 rename_i e;rw[e];simp only;split at h
 simp_all
 rename_i bt;rw[bt];exact h
 simp_all
 rename_i bt;rw[bt];exact h
 simp_all
 rename_i e;rw[e];simp only;split at h
 simp_all
 rename_i bt;rw[bt];exact h
 simp_all
 simp_all
 rename_i e;rw[e];simp only;split at h
 simp_all
 rename_i bt;rw[bt];exact⟨by simp only[Bool.and_eq_true];exact⟨h.1,h.2.1⟩,h.2.2⟩
 simp_all
 simp_all
 simp_all
theorem anh{p:nD}{j:mD}{dI:List mD}{X:Prop}(h:K0 p.lS j dI X):GG p j dI=true/\X:=by
 unfold K0 at h;unfold GG;split at h
 simp_all
 rename_i dC;have key:kh (fun k=>iD p.lS k.cZ||tZ k j) dI=true/\X:=by
  clear dC;rw[kH,all_eq_true];induction dI with
  | nil=>simp_all
  | cons k r bg=>
   have h:cond (iD p.lS k.cZ) (List.rec (motive:=fun _=>Prop) X (fun k _ bg=>cond (iD p.lS k.cZ) bg (CK k j bg)) r) (CK k j (List.rec (motive:=fun _=>Prop) X (fun k _ bg=>cond (iD p.lS k.cZ) bg (CK k j bg)) r)):=h
   grind[ang,CK]
 simp_all
theorem ani{p:nD}{o:Oper}{ρ:fi}{T:List Value}{H:au}{aa:Value->au->Prop}(kk:∀x∈o.op.operands.toList,(ek x).g T=e1 x ρ)(h:K1 P p o.op ρ H aa):
  ∃m v ab,ua P (e7 P m) o p T H=some (v,ab)/\aa v ab/\∀eE,sD eE T->∀dA i,cf dA i=v->wX dA i (AF eE o.op):=by
 unfold K1 at h;unfold ua;cases ak:p.l8 with
 | true=>rw[ak]at h;obtain⟨m,v,bB,h1,h2,h3⟩:=Qp kk h;refine⟨m,v,H,?_,h3,fun eE gF=>Qq gF h1⟩;show GH H ((iu P o.op).f (e7 P m) T (l8 H))=_;rw[h1];unfold GH;simp only;rw[show Nat.beq bB.next H.next=true from h2]
 | false=>
  rw[ak]at h;obtain⟨m,v,ab,h1,h2⟩:=Qp kk h
  grind[Qq]
theorem Qs{n N:Nat}{all:List Oper}{aa:fi->au->Prop}:∀(l:List (Oper×nD)) (du:List (Nat×kR)) (ρ:fi) (T:List Value) (H:au) (dI:List mD),T.length=n->je (EW all (l.map (·.1)) N) ρ T->sD du T->K2 P n all l aa du ρ H dI->
  ∃m o,qE P (e7 P m) all l T H dI=some o/\o.c6=.normal/\o.T.length=n/\∃ k5,je N k5 o.T/\aa k5 o.H
 | [],du,ρ,T,H,dI,aD,bn,ah,h=>⟨0,_,rfl,rfl,aD,ρ,bn,h⟩
 |(o,p)::l,du,ρ,T,H,dI,aD,bn,ah,h=>by
  have bn:je (Nat.lor (KW (EW all (l.map (·.1)) N) o.dst) (Nat.lor (Ho o.op.operands.toList) (Hq all o.guard))) ρ T:=bn;have h:EY n all o (fun eE=>K1 P p o.op ρ H fun v ab=>K0 p.lS (EZ o p ρ H ab) dI (K2 P n all l aa (zc eE o.dst (AF eE o.op)) (put ρ o.dst v) ab (EZ o p ρ H ab::dI)))
   (fun eE=>K2 P n all l aa (zc eE o.dst .undef) (put ρ o.dst undef) H dI) du ρ:=h
  obtain⟨cU,cR⟩:=bn.or;obtain⟨cR,a3⟩:=cR.or;obtain⟨aO,hg⟩:=Yq ah a3 h;rcases hg with⟨aM,eE,gF,hA⟩|⟨aM,eE,gF,b6⟩
  obtain⟨fw,v,ab,h1,h2,wY⟩:=ani (Qn cR) hA;obtain⟨gY,gZ⟩:=anh h2;have Hz:EZ o p ρ H ab=tY o p T H ab:=by unfold EZ tY;rw[Hx (Qn cR)];rfl
  rw[Hz]at gY gZ;obtain⟨dV,dL,cg,cd,g3,g4⟩:=Qs l _ _ _ _ _ (K7.trans aD) (Hw aD aO cU) (gF.put aD aO (k:=AF eE o.op) (wY _ gF)) gZ;refine⟨max fw dV,dL,?_,cd,g3,g4⟩;show so P (e7 P (max fw dV)) o p ((iT all o.guard).f T) T H dI (qE P (e7 P (max fw dV)) all l)=some dL;rw[aM];have ev:ua P (e7 P (max fw dV)) o p T H=some (v,ab):=X9 (xZ (Nat.le_max_left fw dV)) h1;unfold so;simp only[ev,gY];exact KT (xZ (Nat.le_max_right fw dV)) _ _ _ _ _ _ cg;obtain⟨dV,dL,cg,cd,g3,g4⟩:=Qs l _ _ _ _ _ (K7.trans aD) (Hw aD aO cU) (gF.put aD aO (k:=.undef) fun _ _ e=>e) b6;refine⟨dV,dL,?_,cd,g3,g4⟩;show so P (e7 P dV) o p ((iT all o.guard).f T) T H dI (qE P (e7 P dV) all l)=some dL;rw[aM];exact cg
theorem anj(l:List Oper):(s6 P l).map (·.1)=l:=by
 unfold s6 JD;rw[map_map];apply ext_getElem?
 grind[Xo,Xp]
theorem ank{n N:Nat}{bD:List Oper}{d:Bool}{ρ:fi}{T:List Value}{H:au}{aa:fi->au->Prop}(aD:T.length=n)(bn:je (EW bD bD N) ρ T)(h:Qh P n bD d ρ H aa):
  ∃m o,(match d with|true=>o4 P (e7 P m) bD T H|false=>jQ P (e7 P m) bD bD T H)=some o/\o.c6=.normal/\o.T.length=n/\∃ k5,je N k5 o.T/\aa k5 o.H:=by
 unfold Qh at h;have hU:sD [] T:=fun d=>trivial
 cases d with
 | false=>grind[Qr]
 | true=>grind[Qs,anj,o4]
theorem anl(ρ:fi)(l:List Nat):rR ρ l=l.map ρ:=by
 induction l with
 | nil=>rfl
 | cons i r bg=>simp_all[rR]
theorem Qt(l:List Value):∀(kQ:List Nat) (p i:Nat),(∀k,kQ[k]?=some i->(∀j,j<k->kQ[j]?≠some i)->Hn l kQ p i=cf l (p+k))/\(i∉kQ->Hn l kQ p i=undef)
 | [],p,i=>⟨fun k h=>by simp at h,fun _=>rfl⟩
 | x::r,p,i=>by
  obtain⟨h1,h2⟩:=Qt l r (Nat.succ p) i;have e:Hn l (x::r) p i=cond (Nat.beq i x) (cf l p) (Hn l r (Nat.succ p) i):=rfl;refine⟨fun k ah bm=>?_,fun aU=>?_⟩;rw[e];cases ak:Nat.beq i x with
  | true=>grind[eq_of_beq_eq_true]
  | false=>
   have EO:=ne_of_beq_eq_false ak;cases k with
   | zero=>simp_all
   | succ k=>grind
  grind[eq_of_beq_eq_true]
theorem anm{l:List Nat}{i:Nat}(h:i∈l):∃k:Nat,l[k]?=some i/\∀j,j<k->l[j]?≠some i:=by
 induction l with
 | nil=>cases h
 | cons x r bg=>
  by_cases ao:x=i;exact⟨0,by simp[ao],fun j bm=>by omega⟩;obtain⟨k,h1,h2⟩:=bg (by grind);refine⟨k+1,by simp_all,fun j bm=>?_⟩
  grind
theorem Yr(ρ:fi)(kQ:List Nat)(i:Nat):mP kQ (rR ρ kQ) i=if i∈kQ then ρ i else undef:=by
 unfold mP;obtain⟨h1,h2⟩:=Qt (rR ρ kQ) kQ 0 i;split;rename_i h;obtain⟨k,a,b⟩:=anm h;rw[h1 k a b,anl,pI,getD_eq_getElem?_getD,List.getElem?_map,Nat.zero_add,a];rfl
 simp_all
theorem Ys(m:Nat):∀(n:Nat) (jR:List Nat) (i:Nat),i∈(Nat.rec (motive:=fun _=>List Nat->List Nat) (fun jR=>jR) (fun k bg jR=>bg (cond (iD m k) (k::jR) jR)) n jR)↔i∈jR\/(i<n/\iD m i=true)
 | 0,jR,i=>by show i∈jR↔_;simp
 | n+1,jR,i=>by
  have:=Ys m n (cond (iD m n) (n::jR) jR) i
  grind
theorem K9{n m i:Nat}:i∈bits n m↔i<n/\iD m i=true:=by simp_all[bits,Ya,Ys]
theorem ann{n m:Nat}{ρ:fi}{T:List Value}(aD:T.length=n)(h:je m ρ T):je m (mP (bits n m) (rR ρ (bits n m))) T:=fun i an=>by
 rw[Yr];split;exact h i an
 simp_all[pI,K9]
theorem La{n m:Nat}{ρ:fi}{T:List Value}(h:je m ρ T):zd (bits n m) (mP (bits n m) (rR ρ (bits n m))) T:=fun i an=>by rw[Yr,if_pos an];exact h i (K9.1 an).2
theorem Qu{n m:Nat}{l:List Value}{T:List Value}(aD:T.length=n)(h:zd (bits n m) (mP (bits n m) l) T):je m (mP (bits n m) l) T:=fun i an=>by
 by_cases aU:i<n;exact h i (K9.2 ⟨aU,an⟩);have h1:cf T i=undef:=by simp_all[pI]
 rw[h1];exact((Qt l (bits n m) 0 i).2 fun hm=>aU (K9.1 hm).1).symm
def qi(N X:Nat):nz->Nat
 | .normal=>N
 | _=>X
theorem HA(dv:Bool)(n:Nat):∀(c:Code) (N X:Nat) (ρ:fi) (T:List Value) (H:au) (Q:nz->fi->au->Prop),T.length=n->je (eO c N X) ρ T->qS P dv n c N X ρ H Q->
  ∃m o,(dN P dv c).f (e7 P m) T H=some o/\o.T.length=n/\∃ k5,je (qi N X o.c6) k5 o.T/\Q o.c6 k5 o.H:=by
 intro c;induction c with
 | skip=>intro N X ρ T H Q aD bn h;exact⟨0,_,rfl,aD,ρ,bn,h⟩
 | region id bD d=>intro N X ρ T H Q aD bn h;obtain⟨m,o,h1,h2,h3,k5,aG,a6⟩:=ank (d:=d) aD bn h;refine⟨m,o,?_,h3,k5,by rw[h2];exact aG,by simp_all⟩;cases d<;>exact h1
 | seq a b wW nn=>
  intro N X ρ T H Q aD bn h;have h:(match Yc a b with
   | true=>e5 (fun J=>qS P dv n a (eO b N X) X ρ H (Ht (fun ρ H=>J (rR ρ (bits n (eO b N X))) H) Q)) (fun l H=>qS P dv n b N X (mP (bits n (eO b N X)) l) H Q)
   | false=>qS P dv n a (eO b N X) X ρ H (Ht (fun ρ H=>qS P dv n b N X ρ H Q) Q)):=h
  have key:∃J:fi->au->Prop,qS P dv n a (eO b N X) X ρ H (Ht J Q)/\∀ AH ft bB,ft.length=n->je (eO b N X) AH ft->J AH bB->∃ Lb,je (eO b N X) Lb ft/\qS P dv n b N X Lb bB Q:=by
   split at h
   ·obtain⟨J,hA,b6⟩:=h
    grind[ann]
   grind
  obtain⟨J,hA,b6⟩:=key;obtain⟨fw,b3,h1,h2,AH,h3,aG⟩:=wW _ _ _ _ _ _ aD bn hA;obtain⟨e,ft,bB⟩:=b3;cases e with
  | normal=>obtain⟨Lb,a6,bq⟩:=b6 AH ft bB h2 h3 aG;obtain⟨dV,dL,cg,cd,ano,g3,g4⟩:=nn _ _ _ _ _ _ h2 a6 bq;refine⟨max fw dV,dL,?_,cd,ano,g3,g4⟩;show nE ((dN P dv a).f (e7 P (max fw dV)) T H) (fun T H=>(dN P dv b).f (e7 P (max fw dV)) T H)=some dL;rw[xY (xZ (Nat.le_max_left fw dV)) dv _ _ _ _ h1];exact xY (xZ (Nat.le_max_right fw dV)) dv _ _ _ _ cg
  | exit id=>
   refine⟨fw,⟨.exit id,ft,bB⟩,?_,h2,AH,h3,aG⟩
   grind[nE,dN]
  | ret=>
   refine⟨fw,⟨.ret,ft,bB⟩,?_,h2,AH,h3,aG⟩
   grind[nE,dN]
 | cond c a b wW nn=>
  intro N X ρ T H Q aD bn h;have bn:je (Nat.lor (CH c) (Nat.lor (eO a N X) (eO b N X))) ρ T:=bn;obtain⟨cU,cR⟩:=bn.or;obtain⟨cR,a3⟩:=cR.or;obtain⟨h1,h2,t,ht⟩:=(show aE (e1 c ρ) (qS P dv n a N X ρ H Q) (qS P dv n b N X ρ H Q)from h);cases t with
  | true=>grind[pH,dN,Qm]
  | false=>grind[pH,dN,Qm]
 | block id b nn=>
  intro N X ρ T H Q aD bn h;obtain⟨m,o,cg,cd,k5,g3,g4⟩:=nn _ _ _ _ _ _ aD bn (show qS P dv n b N (Nat.lor N X) ρ H (Yd id Q)from h);obtain⟨e,ft,bB⟩:=o;have Lc:∀dK,B9 id (some ⟨e,ft,bB⟩)=some dK->(dN P dv (.block id b)).f (e7 P m) T H=some dK:=fun dK bM=>by grind[dN]
  cases e with
  | normal=>exact⟨m,_,Lc _ rfl,cd,k5,g3,g4⟩
  | ret=>exact⟨m,_,Lc _ rfl,cd,k5,(show je (Nat.lor N X) k5 ft from g3).or.2,g4⟩
  | exit i=>
   have g3:je (Nat.lor N X) k5 ft:=g3;have g4:cond (Nat.beq i id) (Q .normal k5 bB) (Q (.exit i) k5 bB):=g4;cases ak:Nat.beq i id with
   | true=>
    rw[ak]at g4;refine⟨m,⟨.normal,ft,bB⟩,Lc _ ?_,cd,k5,g3.or.1,g4⟩
    simp_all[B9]
   | false=>
    rw[ak]at g4;refine⟨m,⟨.exit i,ft,bB⟩,Lc _ ?_,cd,k5,g3.or.2,g4⟩
    simp_all[B9]
 | loop b _=>
  intro N X ρ T H Q aD bn h;have h:(match Nat.beq (eO b (eO b 0 X) X) (eO b 0 X)with
   | true=>eJ P dv n b X (rR ρ (bits n (eO b 0 X))) H (fun id l H=>Q (.exit id) (mP (bits n X) l) H) (fun l H=>Q .ret (mP (bits n X) l) H)
   | false=>False):=h
  split at h
  case h_2=>grind
  case h_1=>
  obtain⟨m,o,cg,cd,l,g4,g5⟩:=h T aD (La (m:=eO b 0 X) bn);have:=Qu cd g4;obtain⟨e,ft,bB⟩:=o;cases e with
  | normal=>exact(show False from g5).elim
  | exit id=>exact⟨m,_,cg,cd,mP (bits n X) l,this,g5⟩
  | ret=>exact⟨m,_,cg,cd,mP (bits n X) l,this,g5⟩
 | exit id=>intro N X ρ T H Q aD bn h;exact⟨0,_,rfl,aD,ρ,bn,h⟩
 | label l=>intro N X ρ T H Q aD bn h;exact⟨0,_,rfl,aD,ρ,bn,h⟩
 | ret=>intro N X ρ T H Q aD bn h;exact⟨0,_,rfl,aD,ρ,bn,h⟩
 | rangeFunc g bw c9 body _ _=>
  intro N X ρ T H Q aD bn h;cases dv with
  | false=>exact(show False from h).elim
  | true=>
   have h:Hu P n bw.toList c9 body (rR ρ (bits n (tj c9 body))) (Qj g ρ) H (Q .normal ρ) (fun id=>Q (.exit id) ρ) (Q .ret ρ):=h;have bn:je (Nat.lor (CH g) (Nat.lor (Nat.lor N X) (tj c9 body))) ρ T:=bn;obtain⟨cU,cR⟩:=bn.or;obtain⟨cR,a3⟩:=cR.or;obtain⟨cR,a4⟩:=cR.or;obtain⟨m,o,cg,cd,g3⟩:=h T aD (La a3);have hg:(Ei g).g T=Qj g ρ:=by
    cases g with
    | tmp t=>exact cU t (by show iD (Nat.shiftLeft 1 t) t=true;rw[E5];simp)
    | _=>rfl
   refine⟨m,o,?_,by simp_all,ρ,?_,?_⟩
   ·show wy (e7 P m) ((Ei g).g T) bw.toList c9 body T H=some o
    simp_all
   ·rw[cd];cases o.c6 with
    | normal=>exact cR
    | exit id=>exact a4
    | ret=>exact a4
   ·revert g3;cases o.c6 with
    | normal=>exact fun h=>h
    | exit id=>exact fun h=>h
    | ret=>exact fun h=>h
 | _=>intros;rename_i h;exact h.elim
theorem Yt:∀(bw:List Tmp) (args T:List Value),(wu T bw args).length=T.length
 | [],args,T=>by cases args<;>rfl
 | _::_,[],T=>rfl
 | p::bw,v::vs,T=>by show(wu (hs T p v) bw vs).length=_;rw[Yt,pJ,length_set]
theorem Yu{n:Nat}(args:List Value):∀(bw:List Tmp) (k:Nat) (ef:List Value) (T:List Value) (ρ:fi) (m:Nat),T.length=n->(∀p∈bw,p<n)->ef.length=bw.length->(∀i,cf args (k+i)=cf ef i)->je m ρ T->je m (K3 bw args k ρ) (wu T bw ef)
 | [],k,ef,T,ρ,m,aD,bJ,U,aU,bn=>by cases ef<;>exact bn
 | p::bw,k,[],T,ρ,m,aD,bJ,U,aU,bn=>by simp at U
 | p::bw,k,v::vs,T,ρ,m,aD,bJ,U,aU,bn=>by
  show je m (K3 bw args (k+1) (put ρ (some p) (cf args k))) (wu (hs T p v) bw vs);have aJ:cf args k=v:=by have:=aU 0;rw[Nat.add_zero]at this;exact this
  refine Yu args bw (k+1) vs _ _ m (by simp_all[pJ]) (fun q bY=>bJ q (by simp[bY])) (by simp_all) (fun i=>by have:=aU (i+1);rw[show k+1+i=k+(i+1) by omega];exact this) ?_;rw[aJ];refine Hw (d:=some p) (n:=n) aD ?_ ?_;show Nat.blt p n=true
  simp_all
  intro i an;have an:iD (Hp m p) i=true:=an;rw[Yk,Bool.and_eq_true]at an;exact bn i an.1
theorem anp{n:Nat}{bw:List Tmp}{c9 body:Code}{ml args T:List Value}{l:Nat}{H:au}{aa:Value->au->Prop}(aD:eZ H.ed l=some ⟨T,bw,c9,body,.ready⟩)(bk:T.length=n)
  (jX:zd (bits n (tj c9 body)) (mP (bits n (tj c9 body)) ml) T) (hlen:args.length=bw.length) (vz:∀p∈bw,p<n) (h:K4 P n bw c9 body ml args l H aa):y9 P (.round l args H) aa:=by
 have anq:je (tj c9 body) (K3 bw args 0 (mP (bits n (tj c9 body)) ml)) (wu T bw args):=Yu args bw 0 args T _ _ bk vz hlen (fun i=>by simp_all) (Qu bk jX);obtain⟨fw,b3,cg,cd,AH,g3,g4⟩:=HA false n c9 (eO body 0 0) 0 _ _ H _ (by grind[Yt]) anq h;obtain⟨a7,ft,bB⟩:=b3;cases a7 with
 | exit id=>exact(show False from g4).elim
 | ret=>exact(show False from g4).elim
 | normal=>
  obtain⟨cJ,b1,b2⟩:=(show Hv l bB (fun H=>qS P false n body 0 0 AH H fun e _ H=>E0 l e H aa)from g4);obtain⟨dV,dL,dZ,gd,Lb,mg,HB⟩:=HA false n body 0 0 _ ft cJ _ cd g3 b2;obtain⟨bt,HC,jr⟩:=dL;obtain⟨vy,dg,cr⟩:=(show E0 l bt jr aa from HB);refine⟨max fw dV+1,.ret,.bool (Ah bt),vy,?_,cr⟩;show xI P (e7 P (max fw dV)) l args H=_;unfold xI;rw[aD];simp only[hB,hlen,beq_refl];rw[xY (xZ (Nat.le_max_left fw dV)) false _ _ _ _ cg];show(match Ca l bB with|some cJ=>GJ l ((dN P false body).f (e7 P (max fw dV)) ft cJ)|none=>none)=_
  grind[xY,xZ,Nat.le_max_right,GJ]
theorem anr{dv:Bool}{n:Nat}{b:Code}{X:Nat}{bC:Nat->List Value->au->Prop}{ch:List Value->au->Prop}(aFt:eO b (eO b 0 X) X=eO b 0 X)(I:Nat->List Value->au->Prop)
  (al:∀k l H,I k l H->qS P dv n b (eO b 0 X) X (mP (bits n (eO b 0 X)) l) H (Ye n b X (fun l H=>∃e6,e6<k/\I e6 l H) bC ch)):∀k l H,I k l H->eJ P dv n b X l H bC ch:=by
 intro k;induction k using Nat.strongRecOn with
 | ind k bg=>
  intro l H jf T aD bn;obtain⟨m,o,h1,h2,k5,h3,aG⟩:=HA dv n b _ _ _ T H _ aD (by simp_all[Qu]) (al k l H jf);obtain⟨e,ft,bB⟩:=o;have Yv:e≠.normal->Qi bC ch e (rR k5 (bits n X)) bB->je X k5 ft->∃m o,e7 P m (.loop dv b T H)=some o/\o.T.length=n/\∃l,zd (bits n X) (mP (bits n X) l) o.T/\Qi bC ch o.c6 l o.H:=by intro he bY jX;refine⟨m+1,⟨e,ft,bB⟩,?_,h2,_,La jX,bY⟩;show nE ((dN P dv b).f (e7 P m) T H) (fun T H=>e7 P m (.loop dv b T H))=_;rw[h1];cases e<;>first|exact absurd rfl he|rfl
  cases e with
  | normal=>obtain⟨e6,ah,ans⟩:=aG;obtain⟨dV,dL,cg,cd⟩:=bg e6 ah _ _ ans ft h2 (La h3);refine⟨max m dV+1,dL,?_,cd⟩;show nE ((dN P dv b).f (e7 P (max m dV)) T H) (fun T H=>e7 P (max m dV) (.loop dv b T H))=_;rw[xY (xZ (Nat.le_max_left m dV)) dv _ _ _ _ h1];exact xZ (Nat.le_max_right m dV) _ _ cg
  | exit id=>exact Yv (by simp) aG h3
  | ret=>exact Yv (by simp) aG h3
theorem Yw{r:ResultVar}{ρ:fi}{T:List Value}{H:au}{aa:Value->Prop}(bn:je (K6 r) ρ T)(h:K5 P r ρ H aa):∃v,Eo P T H r=some v/\aa v:=by
 cases r with
 | tmp t=>exact⟨cf T t,rfl,by rw[bn t (by show iD (Nat.shiftLeft 1 t) t=true;rw[E5];simp)];exact h⟩
 | cell a t=>obtain⟨v,ab,h1,h2⟩:=h;refine⟨v,?_,h2⟩;unfold Eo;simp only[bn a (by show iD (Nat.shiftLeft 1 a) a=true;rw[E5];simp),h1]
theorem Yx{ρ:fi}{T:List Value}{H:au}:∀(dI:List ResultVar) (k:List Value->Prop),je (x1 dI) ρ T->Qk P dI ρ H k->∃vs,Af P T H dI=some vs/\k vs
 | [],k,_,h=>⟨[],rfl,h⟩
 | r::dI,k,bn,h=>by obtain⟨cU,cR⟩:=(show je (Nat.lor (K6 r) (x1 dI)) ρ T from bn).or;obtain⟨v,h1,h2⟩:=Yw cU (show K5 P r ρ H fun v=>Qk P dI ρ H fun vs=>k (v::vs)from h);obtain⟨vs,h3,aG⟩:=Yx dI _ cR h2;exact⟨v::vs,by unfold Af;simp only[h1,h3],aG⟩
theorem Yy{dI:List ResultVar}{ρ:fi}{T:List Value}{H:au}{aa:Value->au->Prop}(bn:je (x1 dI) ρ T)(h:E4 P dI ρ H aa):∃v,Ag P dI T H=some v/\aa v H:=by
 unfold E4 at h;unfold Ag;split at h;rename_i r;obtain⟨cU,_⟩:=(show je (Nat.lor (K6 r) (x1 [])) ρ T from bn).or;exact Yw cU h
 grind[Yx]
noncomputable def HD(P:Program)(c:Code)(f:FuncId)(args:List Value)(H:au)(aa:Value->au->Prop):Prop:=match P.funcs.toList[f]? with
 | some fn=>match Nat.ble (gi args) fn.ntmps&&Nat.ble (gi args) (fn.params.size+fn.nfree)with
  | true=>qS P true fn.ntmps c (x1 fn.results.toList) (x1 fn.results.toList) (fun i=>cf args i) H (Yi P fn.results.toList aa)
  | false=>False
 | none=>False
theorem E7{f:FuncId}{args:List Value}{H:au}{aa:Value->au->Prop}(eU:eA.lG f args H=none)(h:AG P f args H aa)(ak:eA.pd f=none:=by rfl):ay P f args H aa:=by
 unfold AG at h;split at h
 case h_2=>grind
 case h_1 fn hf=>
 split at h
 case h_2=>grind
 case h_1 c aB=>
 split at h
 case h_2=>grind
 case h_1 hlen=>
 rw[mE,hB]at hlen;have hlen:=of_decide_eq_true hlen;have bk:(iC args (gv (fn.ntmps-gi args) [undef])).length=fn.ntmps:=by simp_all[jm,Az,hB]
 have aU:∀i,cf (iC args (gv (fn.ntmps-gi args) [undef])) i=cf args i:=by grind[jm,Az,pI]
 obtain⟨m,o,h1,h2,k5,h3,aG⟩:=HA true fn.ntmps c _ _ _ _ H _ bk (fun i _=>aU i) h;obtain⟨e,ft,bB⟩:=o;have dy:e≠.exit 0->(∀id,e≠.exit id)->je (x1 fn.results.toList) k5 ft->E4 P fn.results.toList k5 bB aa->ay P f args H aa:=by
  intro _ ao jX U;obtain⟨v,cg,cd⟩:=Yy jX U;refine⟨m+1,.ret,v,bB,?_,cd⟩;show(match eA.lG f args H with|some v=>some (⟨.ret,[v],H⟩:el)|none=>match eA.pd f with|some c=>sB P f c (e7 P m) args H|none=>(vf P f).f (e7 P m) args H)=_
  simp_all[vf,wA]
 cases e with
 | normal=>exact dy (by simp) (by simp) h3 aG
 | exit id=>exact(show False from aG).elim
 | ret=>exact dy (by simp) (by simp) h3 aG
theorem Qv{c:Code}{f:FuncId}{args:List Value}{H:au}{aa:Value->au->Prop}(eU:eA.lG f args H=none)(h:HD P c f args H aa)(ak:eA.pd f=some c:=by rfl):ay P f args H aa:=by
 unfold HD at h;split at h
 case h_2=>grind
 case h_1 fn hf=>
 split at h
 case h_2=>grind
 case h_1 hlen=>
 rw[Bool.and_eq_true]at hlen;have j7:=hlen.2;have hlen:=hlen.1;rw[mE,hB]at hlen;have hlen:=of_decide_eq_true hlen;have bk:(iC args (gv (fn.ntmps-gi args) [undef])).length=fn.ntmps:=by simp_all[jm,Az,hB]
 have aU:∀i,cf (iC args (gv (fn.ntmps-gi args) [undef])) i=cf args i:=by grind[jm,Az,pI]
 obtain⟨m,o,h1,h2,k5,h3,aG⟩:=HA true fn.ntmps c _ _ _ _ H _ bk (fun i _=>aU i) h;obtain⟨e,ft,bB⟩:=o;have dy:e≠.exit 0->(∀id,e≠.exit id)->je (x1 fn.results.toList) k5 ft->E4 P fn.results.toList k5 bB aa->ay P f args H aa:=by
  intro _ ao jX U;obtain⟨v,cg,cd⟩:=Yy jX U;refine⟨m+1,.ret,v,bB,?_,cd⟩;show(match eA.lG f args H with|some v=>some (⟨.ret,[v],H⟩:el)|none=>match eA.pd f with|some c=>sB P f c (e7 P m) args H|none=>(vf P f).f (e7 P m) args H)=_;rw[eU,ak];simp only;unfold sB;rw[hf];simp only;rw[h1];unfold wA
  grind
 cases e with
 | normal=>exact dy (by simp) (by simp) h3 aG
 | exit id=>exact(show False from aG).elim
 | ret=>exact dy (by simp) (by simp) h3 aG
end
end Go.Ab
namespace Go.Ab
open Go
local instance:h7:=⟨fun _=>none,0⟩
abbrev ai(p o:Nat):Value:=.pointer (some ⟨p,o,none⟩)
abbrev int(n:Int):Value:=.int .i64 n
abbrev aC(p o n c:Nat):Value:=.slice (some ⟨p,o,none⟩) n c
abbrev bu:Value:=.slice none 0 0
section pure
variable{P:Program}{H:au}{k:IntKind}
theorem Qw{v:Value}{H:au}{aa:Value->au->Prop}:af (some (v,H)) aa=aa v H:=by grind[af]
theorem Yz{A B:Prop}:aE (.bool true) A B=A:=by simp_all[aE]
theorem YA{A B:Prop}:aE (.bool false) A B=B:=by simp_all[aE]
theorem qj{b:Bool}{A B:Prop}(h1:b=true->A)(h2:b=false->B):aE (.bool b) A B:=
 ⟨fun e=>h1 (by grind),fun e=>h2 (by grind),b,rfl⟩
theorem bF{p:Prop}[Decidable p]{A B:Prop}(h1:p->A)(h2:¬p->B):aE (.bool (decide p)) A B:=
 qj (fun h=>h1 (of_decide_eq_true h)) (fun h=>h2 (of_decide_eq_false h))
theorem j9{a b:Value}:aI (.bool true) a b=some a:=rfl
theorem km{a b:Value}:aI (.bool false) a b=some b:=rfl
theorem YB{a:Addr}:pG (.pointer (some a))=some (.pointer (some a)):=rfl
theorem b7{o p q:Nat}:bG o (ai p q)=some (ai p (q+o)):=rfl
theorem cj{v:Value}{l:List Value}:cf (v::l) 0=v:=rfl
theorem ck{v:Value}{l:List Value}{n:Nat}:cf (v::l) (n+1)=cf l n:=rfl
theorem ze{a:Option Addr}{n c:Nat}{H:au}:bO (.slice a n c) H=some (.int .i64 n,H):=rfl
theorem YC:u1 k k=true:=by cases k<;>rfl
theorem rS{op:BinOp}{t:TypeId}{c:Bool}(a b:Int)(h:Ec op=none):(ar P op t c).f (.int k a) (.int k b)=Jn op k a b:=by simp_all[ar,YC]
variable{t:TypeId}{c:Bool}{a b:Int}
theorem YD:(ar P .add t c).f (.int k a) (.int k b)=some (.int k (iN k (a+b))):=rS a b rfl
theorem YE:(ar P .sub t c).f (.int k a) (.int k b)=some (.int k (iN k (a-b))):=rS a b rfl
theorem YF:(ar P .mul t c).f (.int k a) (.int k b)=some (.int k (iN k (a*b))):=rS a b rfl
theorem e2:(ar P .eql t c).f (.int k a) (.int k b)=some (.bool (decide (a=b))):=by rw[rS a b rfl];show some (Value.bool (pD a b))=_;rw[sq]
theorem ij:(ar P .neq t c).f (.int k a) (.int k b)=some (.bool (decide (a≠b))):=by rw[rS a b rfl];show some (Value.bool (not (pD a b)))=_;rw[sq];simp
theorem fr:(ar P .lss t c).f (.int k a) (.int k b)=some (.bool (decide (a<b))):=by rw[rS a b rfl];show some (Value.bool (not (kx b a)))=_;grind[lf]
theorem kS:(ar P .gtr t c).f (.int k a) (.int k b)=some (.bool (decide (b<a))):=by rw[rS a b rfl];show some (Value.bool (not (kx a b)))=_;grind[lf]
theorem HE:(ar P .leq t c).f (.int k a) (.int k b)=some (.bool (decide (a<=b))):=by rw[rS a b rfl];show some (Value.bool (kx a b))=_;rw[lf]
theorem um:(ar P .geq t c).f (.int k a) (.int k b)=some (.bool (decide (b<=a))):=by rw[rS a b rfl];show some (Value.bool (kx b a))=_;rw[lf]
theorem ix{b:Bool}:hx .not (.bool b)=some (.bool !b):=rfl
theorem ant:oF [.int k a,.int k b]=some (.int k (min a b)):=by
 show some (Value.int k (cond (kx a b) a b))=_
 grind[lf]
theorem anu:pF [.int k a,.int k b]=some (.int k (max a b)):=by
 show some (Value.int k (cond (kx b a) a b))=_
 grind[lf]
theorem AI{n:Int}(h1:-9223372036854775808<=n)(h2:n<=9223372036854775807):iN .i64 n=n:=by
 show u2 9223372036854775808 18446744073709551616 n=n;unfold u2;cases n with
 | ofNat m=>grind[qI]
 | negSucc m=>grind[qI]
theorem jD{p o n c size:Nat}{i:Int}(aJ:0<=i)(h1:i<n):hz size (aC p o n c) (.int k i)=some (ai p (o+i.toNat*size)):=by
 show fa n size (ai p o) (.int k i)=_;unfold fa;have a7:kx 0 i=true:=by simp_all[lf]
 have bt:Nat.blt i.toNat n=true:=by simp_all
 simp only[a7,bt];rfl
theorem fX{p o n size:Nat}{i:Int}(aJ:0<=i)(h1:i<n):fa n size (ai p o) (.int k i)=some (ai p (o+i.toNat*size)):=by
 unfold fa;have a7:kx 0 i=true:=by simp_all[lf]
 have bt:Nat.blt i.toNat n=true:=by simp_all
 simp only[a7,bt];rfl
end pure
namespace Tr
variable{α:Type}
def qT:Tr α->Nat->Prop
 | .nil,_=>False
 | .lD _ _ _,0=>True
 | .lD l _ r,k+1=>if k%2=0 then qT l (k/2)else qT r (k/2)
def sE(t:Tr α)(N:Nat):Prop:=∀m,m<N->qT t m
theorem YG(l r:Tr α)(x v:Option α)(n:Nat):(Tr.lD l x r).set (n+1) v=if n%2=0 then .lD (l.set (n/2) v) x r else .lD l x (r.set (n/2) v):=by
 have e:(Tr.lD l x r).set (n+1) v=cond (Nat.beq (Nat.mod n 2) 0) (.lD (l.set (Nat.div n 2) v) x r) (.lD l x (r.set (Nat.div n 2) v)):=rfl;rw[e];cases h:Nat.beq (Nat.mod n 2) 0 with
 | true=>rw[if_pos (show n%2=0 from eq_of_beq_eq_true h)];rfl
 | false=>rw[if_neg (show¬n%2=0 from ne_of_beq_eq_false h)];rfl
theorem YH(l r:Tr α)(x:Option α)(n:Nat):(Tr.lD l x r).get (n+1)=if n%2=0 then l.get (n/2)else r.get (n/2):=by
 rw[GK];cases h:Nat.beq (Nat.mod n 2) 0 with
 | true=>rw[if_pos (show n%2=0 from eq_of_beq_eq_true h)];rfl
 | false=>rw[if_neg (show¬n%2=0 from ne_of_beq_eq_false h)];rfl
theorem AJ(t:Tr α)(n m:Nat)(v:Option α)(h:qT t m):qT (t.set n v) m:=by
 induction t generalizing n m with
 | nil=>exact h.elim
 | lD l x r anv anw=>
  cases n with
  | zero=>cases m<;>exact h
  | succ n=>
   rw[YG];cases m with
   | zero=>split<;>exact trivial
   | succ m=>
    have h:(if m%2=0 then qT l (m/2)else qT r (m/2)):=h;split;show(if m%2=0 then qT (l.set (n/2) v) (m/2)else qT r (m/2))
    grind
    show(if m%2=0 then qT l (m/2)else qT (r.set (n/2) v) (m/2))
    grind
theorem AK(t:Tr α)(n:Nat)(v:Option α)(h:sE t n):(t.set n v).get n=v/\qT (t.set n v) n:=by
 induction t generalizing n with
 | nil=>
  cases n with
  | zero=>exact⟨rfl,trivial⟩
  | succ n=>exact(h 0 (succ_pos _)).elim
 | lD l x r anv anw=>
  cases n with
  | zero=>exact⟨rfl,trivial⟩
  | succ n=>
   rw[YG];split;rename_i aU;have aD:sE l (n/2):=fun m hm=>by
    have:=h (2*m+1) (by omega)
    simp_all[qT]
   simp_all[YH,qT]
   rename_i aU;have U:sE r (n/2):=fun m hm=>by
    have:=h (2*m+2) (by omega);have:(if(2*m+1)%2=0 then qT l ((2*m+1)/2)else qT r ((2*m+1)/2)):=this
    grind
   simp_all[YH,qT]
end Tr
class b0 where
 l:List (Nat×hP)
instance (priority:=1) aFu:b0:=⟨[]⟩
structure aj [b0] (H:au) (ae:List (Nat×ax)):Prop where
 dc:H.dS=0
 jZ:H.t.sE H.next
 tk:(ae.map (·.1)).Nodup
 lt:∀x∈ae,x.1<H.next
 get:∀x∈ae,(x.2.wr=true\/x.2.cells≠[])->H.get x.1=some x.2
 ed:H.ed=b0.l
 E8:∀x∈(b0.l:List (Nat×hP)),x.1<H.next
section st
variable[eA][b0]{P:Program}{H:au}{ae b9:List (Nat×ax)}
theorem aj.at(h:aj H ae)(i:Nat){p:Nat}{b:ax}(an:ae[i]?=some (p,b))(ao:b.wr=true\/b.cells≠[]):H.get p=some b:=h.get (p,b) (mem_of_getElem? an) ao
theorem aj.sub(h:aj H ae)(al:b9.Sublist ae):aj H b9:=
 ⟨h.dc,h.jZ,h.tk.sublist (al.map _),fun x ao=>h.lt x (al.subset ao),fun x ao=>h.get x (al.subset ao),h.ed,h.E8⟩
theorem aj.take(h:aj H ae)(n:Nat):aj H (ae.take n):=h.sub (take_sublist n ae)
theorem aj.left(h:aj H (ae++b9)):aj H ae:=h.sub (sublist_append_left ae b9)
theorem aj.fj(h:aj H ae)(bJ:ae.Perm b9):aj H b9:=
 ⟨h.dc,h.jZ,(bJ.map _).nodup_iff.1 h.tk,fun x ao=>h.lt x (bJ.mem_iff.2 ao),fun x ao=>h.get x (bJ.mem_iff.2 ao),h.ed,h.E8⟩
theorem anx(H:au)(bf:H.t.sE H.next)(aq:List Value):(H.push aq).get H.next=some ⟨aq,true⟩:=(Tr.AK _ _ _ bf).1
theorem anz(H:au)(aq:List Value){i:Nat}(h:i≠H.next):(H.push aq).get i=H.get i:=Tr.l9 _ _ _ _ h
theorem aj.push(h:aj H ae)(aq:List Value):aj (H.push aq) (ae++[(H.next,⟨aq,true⟩)]):=by
 refine⟨h.dc,fun m hm=>?_,?_,fun x ao=>?_,fun x ao aM=>?_,h.ed,fun x ao=>lt_succ_of_lt (h.E8 x ao)⟩;by_cases he:m=H.next;subst he;exact(Tr.AK _ _ _ h.jZ).2;have hm:m<H.next+1:=hm;exact Tr.AJ _ _ _ _ (h.jZ m (by omega));rw[map_append,map_cons,map_nil,nodup_append];refine⟨h.tk,by simp,fun a bn b ak=>?_⟩;obtain⟨x,ao,rfl⟩:=mem_map.1 bn;have:=h.lt x ao
 grind
 show x.1<H.next+1;rcases mem_append.1 ao with ao|ao
 have:=h.lt x ao;omega
 simp_all
 rcases mem_append.1 ao with ao|ao
 have:=h.lt x ao;rw[anz H aq (by omega)];exact h.get x ao aM;simp at ao;subst ao;exact anx H h.jZ aq
theorem dH{aq:List Value}{aa:Value->au->Prop}(h:aj H ae)(ah:∀p ab,aj ab (ae++[(p,⟨aq,true⟩)])->aa (ai p 0) ab):cG aq H aa:=ah _ _ (h.push aq)
theorem anA{p o:Nat}{b:ax}{v:Value}(h:H.get p=some b)(hv:b.cells[o]?=some v):aw (ai p o) H=some (v,H):=by show fZ H (B1 H p o)=_;unfold B1;rw[h];simp only[wB,hv];rfl
theorem aY{p o:Nat}{b:ax}{v:Value}{aa:Value->au->Prop}(h:aj H ae)(i:Nat)(an:ae[i]?=some (p,b))(hv:b.cells[o]?=some v)(ah:aa v H):af (aw (ai p o) H) aa:=by rw[anA (h.at i an (.inr fun e=>by simp_all)) hv,Qw];exact ah
theorem anB{p o n:Nat}{b:ax}(h:H.get p=some b)(aU:n<=b.cells.length-o):bZ n (ai p o) H=some (.agg ((b.cells.drop o).take n).toArray,H):=by simp_all[bZ,Cb,ni,n1,yI,hB]
theorem iH{p o n:Nat}{b:ax}{aq:List Value}{aa:Value->au->Prop}(h:aj H ae)(i:Nat)(an:ae[i]?=some (p,b))(hv:(b.cells.drop o).take n=aq)(aU:aq.length=n)(bJ:0<n)(ah:aa (.agg aq.toArray) H):af (bZ n (ai p o) H) aa:=by subst hv;rw[anB (h.at i an (.inr fun e=>by simp_all)) (by grind),Qw];exact ah
theorem anC{i:Nat}{p:Nat}{b di:ax}(an:ae[i]?=some (p,b)):(ae.set i (p,di)).map (·.1)=ae.map (·.1):=by
 apply ext_getElem?
 grind
theorem aj.iE(h:aj H ae){i p:Nat}{b:ax}(an:ae[i]?=some (p,b))(ao:b.wr=true\/b.cells≠[])(di:ax):aj (H.set p (some di)) (ae.set i (p,di)):=by
 have hm:∀x∈ae.set i (p,di),x=(p,di)\/(x∈ae/\x.1≠p):=by
  intro x ao;obtain⟨j,bm⟩:=mem_iff_getElem?.1 ao;rw[List.getElem?_set]at bm;by_cases he:i=j
  simp_all
  rw[if_neg he]at bm;refine .inr ⟨mem_of_getElem? bm,fun e=>he ?_⟩;have fo:(ae.map (·.1))[i]?=some p:=by simp_all
  have fN:(ae.map (·.1))[j]?=some p:=by simp_all
  exact(List.getElem?_inj (by grind) h.tk).1 (fo.trans fN.symm)
 refine⟨h.dc,fun m hm=>Tr.AJ _ _ _ _ (h.jZ m hm),by rw[anC an];exact h.tk,fun x ao=>?_,fun x ao aM=>?_,h.ed,h.E8⟩;rcases hm x ao with rfl|⟨ao,_⟩
 exact h.lt (p,b) (mem_of_getElem? an);exact h.lt x ao;rcases hm x ao with rfl|⟨ao,dC⟩
 exact Tr.VZ _ _ _ _ (h.at i an ‹_›);exact(Tr.l9 _ _ _ _ dC).trans (h.get x ao aM)
theorem HF(h:aj H ae){i p o:Nat}{aq vs:List Value}(an:ae[i]?=some (p,⟨aq,true⟩))(aU:o+vs.length<=aq.length)(h1:vs.all eL=true):
  ∃ab,wi H p o vs=some ab/\aj ab (ae.set i (p,⟨aq.take o++(vs++aq.drop (o+vs.length)),true⟩)):=by
 refine⟨_,?_,h.iE an (.inl rfl) _⟩;rw[JF];rw[h.at i an (.inl rfl)];have e:(au.o2 H p ⟨aq,true⟩&&(Nat.ble (o+gi vs) (gi aq)&&kh eL vs))=true:=by
  unfold au.o2;rw[h.dc]
  simp_all[hB,kH]
 grind[jm,ni,n1,hB]
theorem pR{n p o:Nat}{v:Value}{aq:List Value}{aa:Value->au->Prop}(h:aj H ae)(i:Nat)(an:ae[i]?=some (p,⟨aq,true⟩))(aD:(dr v).length=n)(aU:o+n<=aq.length)(h1:(dr v).all eL=true)
  (ah:∀ab,aj ab (ae.set i (p,⟨aq.take o++(dr v++aq.drop (o+n)),true⟩))->aa undef ab):af (bx n (ai p o) v H) aa:=by
 obtain⟨ab,aM,al⟩:=HF h (o:=o) (vs:=dr v) an (by omega) h1
 simp_all[bx,hB,Qw]
theorem fR{p o:Nat}{v:Value}{aq bE:List Value}{aa:Value->au->Prop}(h:aj H ae)(i:Nat)(an:ae[i]?=some (p,⟨aq,true⟩))(h1:eL v=true)(aU:o<aq.length)(aB:aq.set o v=bE)
  (ah:∀ab,aj ab (ae.set i (p,⟨bE,true⟩))->aa undef ab):af (bx 1 (ai p o) v H) aa:=by
 have hv:dr v=[v]:=by cases v<;>first|rfl|(cases h1;done)
 refine pR h i an (by grind) (by omega) (by simp_all) fun ab hO=>ah ab ?_
 have e:aq.take o++(dr v++aq.drop (o+1))=bE:=by
  rw[hv,<- aB];apply ext_getElem?;intro j;rw[List.getElem?_set];by_cases bm:j<o
  ·grind
  ·rw[List.getElem?_append_right (by grind),length_take,Nat.min_eq_left (by omega)];by_cases E9:j=o
   ·simp_all
   ·rw[List.getElem?_append_right (by grind),List.getElem?_drop,if_neg (Ne.symm E9)]
    grind
 simp_all
def uo:Value->Bool
 | .bool _=>true
 | .int _ _=>true
 | .string _=>true
 | .pointer a=>match a with|none=>true|some a=>a.spot.isNone
 | .slice a _ _=>match a with|none=>true|some a=>a.spot.isNone
 | .map _=>true
 | .nilFunc=>true
 | .nilIface=>true
 | _=>false
def YI:Fn->Bool
 | .func _=>true
 | _=>false
def fY:Value->Bool
 | .iface _ v=>uo v
 | .func f a b=>YI f&&(a.toList.all uo&&b.toList.all uo)
 | v=>uo v
theorem Ld{α:Type}{p:α->α->Bool}:∀l:List α,(∀x∈l,p x x=true)->u0 p l l=true
 | [],_=>rfl
 | x::l,h=>by
  show cond (p x x) (u0 p l l) false=true
  simp_all[Ld]
theorem YJ{a:Option Addr}(h:(match a with|none=>true|some a=>a.spot.isNone)=true):Em a a=true:=by
 cases a with
 | none=>rfl
 | some a=>
  obtain⟨i,o,s⟩:=a;cases s with
  | none=>show(Nat.beq i i&&Nat.beq o o)=true;simp_all
  | some _=>cases h
theorem Qx(sub:Value->Value->Bool){v:Value}(h:uo v=true):B8 sub v v=true:=by
 cases v<;>first|(cases h;done)|skip
 case bool b=>cases b<;>rfl
 case int k n=>show(u1 k k&&pD n n)=true;rw[YC,sq];simp
 case string s=>show u0 OA s.data.toList s.data.toList=true;exact Ld _ fun x _=>beq_refl _
 case pointer a=>exact YJ h
 case slice a n c=>show(Em a a&&(Nat.beq n n&&Nat.beq c c))=true;rw[YJ h,beq_refl,beq_refl];rfl
 case map a=>cases a with
  | none=>rfl
  | some i=>exact beq_refl i
 case nilFunc=>rfl
 rfl
theorem anD{v:Value}(h:fY v=true):OB v v=true:=by
 cases v<;>first|exact Qx _ h|skip
 case iface t v=>show(Nat.beq t t&&B8 _ v v)=true;rw[beq_refl,Qx _ h];rfl
 case func f a b=>
  have h:(YI f&&(a.toList.all uo&&b.toList.all uo))=true:=h;rw[Bool.and_eq_true,Bool.and_eq_true,all_eq_true,all_eq_true]at h;obtain⟨aJ,h1,h2⟩:=h;cases f<;>first|(cases aJ;done)|skip
  rename_i g;show(Nat.beq g g&&(u0 _ a.toList a.toList&&u0 _ b.toList b.toList))=true
  grind[beq_refl,Ld,Qx]
theorem anE{H ab:au}{p:Nat}{b:ax}(h:H.get p=some b)(aT:ab.get p=some b)(al:b.cells.all fY=true):en H ab p=true:=by unfold en;rw[h,aT];simp only;rw[Ld _ fun x ao=>anD (all_eq_true.1 al x ao)];cases b.wr<;>rfl
theorem anF{s:Nat->Bool}:ey s (cm []):=rfl
theorem anG{s:Nat->Bool}{p o:Nat}{l:List Value}(bJ:s p=true)(h:ey s (cm l)):ey s (cm (ai p o::l)):=by
 have e:cm (ai p o::l)=p::cm l:=rfl
 simp_all[ey,kH]
theorem ho{H ab:au}{b9:List (Nat×ax)}{p o:Nat}{b:ax}(h:aj H ae)(i:Nat)(an:ae[i]?=some (p,b))(aT:aj ab b9)(j:Nat)(bm:b9[j]?=some (p,b))(al:b.cells.all fY=true)(ao:b.wr=true\/b.cells≠[]:=by exact .inl rfl):ey (en H ab) (cm [ai p o]):=
 anG (anE (h.at i an ao) (aT.at j bm ao) al) anF
theorem ag{r:Option Value}{v:Value}{aa:Value->Prop}(h:r=some v)(ah:aa v):ad r aa:=⟨v,h,ah⟩
theorem bW{r:R}{v:Value}{ab:au}{aa:Value->au->Prop}(h:r=some (v,ab))(ah:aa v ab):af r aa:=⟨v,ab,h,ah⟩
theorem oa{p:Prop}[Decidable p]{A B:Prop}(h:p)(hA:A):aE (.bool (decide p)) A B:=by simp_all[Yz]
theorem sF{p:Prop}[Decidable p]{A B:Prop}(h:¬p)(b6:B):aE (.bool (decide p)) A B:=by simp_all[YA]
theorem gA{p:Prop}[Decidable p]{a b:Value}(h:p):aI (.bool (decide p)) a b=some a:=by rw[decide_eq_true h];rfl
theorem gP{p:Prop}[Decidable p]{a b:Value}(h:¬p):aI (.bool (decide p)) a b=some b:=by rw[decide_eq_false h];rfl
theorem k6{b:Bool}{A B:Prop}(h:b=true)(hA:A):cond b A B:=by simp_all
theorem anH{b:Bool}{A B:Prop}(h:b=false)(b6:B):cond b A B:=by simp_all
theorem jg{t:TypeId}{c:Bool}{a b:Int}(h1:-9223372036854775808<=a+b)(h2:a+b<=9223372036854775807):(ar P .add t c).f (.int .i64 a) (.int .i64 b)=some (.int .i64 (a+b)):=by rw[YD,AI h1 h2]
theorem ob{t:TypeId}{c:Bool}{a b:Int}(h1:-9223372036854775808<=a-b)(h2:a-b<=9223372036854775807):(ar P .sub t c).f (.int .i64 a) (.int .i64 b)=some (.int .i64 (a-b)):=by rw[YE,AI h1 h2]
theorem vA{t:TypeId}{c:Bool}{a b:Int}(h1:-9223372036854775808<=a*b)(h2:a*b<=9223372036854775807):(ar P .mul t c).f (.int .i64 a) (.int .i64 b)=some (.int .i64 (a*b)):=by rw[YF,AI h1 h2]
theorem tl{H:au}{k:IntKind}{a b:Int}:fZ H (oF [.int k a,.int k b])=some (.int k (min a b),H):=by rw[ant];rfl
theorem x3{H:au}{k:IntKind}{a b:Int}:fZ H (pF [.int k a,.int k b])=some (.int k (max a b),H):=by rw[anu];rfl
theorem e3{A:(List Value->au->Prop)->Prop}{B:List Value->au->Prop}(J:List Value->au->Prop)(h1:A J)(h2:∀l H,J l H->B l H):e5 A B:=⟨J,h1,h2⟩
theorem AL{A:(List Value->au->Prop)->Prop}{B:List Value->au->Prop}(h1:A B):e5 A B:=⟨B,h1,fun _ _ h=>h⟩
end st
end Go.Ab
namespace Go.Ab
open Go
local instance:h7:=⟨fun _=>none,0⟩
section
variable[eA][b0]{H:au}{ae:List (Nat×ax)}{aa:Value->au->Prop}
theorem eT{b:Bool}{A B:Prop}(h:b=true)(hA:A):aE (.bool b) A B:=by simp_all[Yz]
theorem dP{b:Bool}{A B:Prop}(h:b=false)(b6:B):aE (.bool b) A B:=by simp_all[YA]
theorem anI(n:Nat)(v:Value):gv n [v]=List.replicate n v:=Az n v
theorem ik{r:R}{n c:Nat}{aq:List Value}(h:aj H ae)(U:r=some (aC H.next 0 n c,H.push aq))(ah:∀p ab,aj ab (ae++[(p,⟨aq,true⟩)])->aa (aC p 0 n c) ab):af r aa:=
 bW U (ah _ _ (h.push aq))
theorem anJ{size bytes:Nat}{z:List Value}{k e6:IntKind}{n:Nat}(h1:n*bytes<=281474976710656)(h2:n<=9223372036854775807):
  u6 size bytes z (.int k n) (.int e6 n) H=some (aC H.next 0 n (2*size+1),H.push (gv n z)):=by
 unfold u6;simp only[Int.toNat_natCast];rw[if_pos (by omega),if_pos (by omega),if_pos (by simp_all)];have:pD (n:Int) n=true:=by rw[sq];simp
 rw[this];rfl
theorem HG{size bytes:Nat}{z:List Value}{k e6:IntKind}{n:Nat}(h:aj H ae)(h1:n*bytes<=281474976710656)(h2:n<=9223372036854775807)
  (ah:∀p ab,aj ab (ae++[(p,⟨gv n z,true⟩)])->aa (aC p 0 n (2*size+1)) ab):af (u6 size bytes z (.int k n) (.int e6 n) H) aa:=
 ik h (anJ h1 h2) ah
def bQ(v:Value)(aq:List Value):List (Nat×ax):=match v with
 | .slice (some a) _ _=>[(a.block,⟨aq,true⟩)]
 | _=>[]
def iV(size:Nat)(v:Value)(n:Nat)(aq:List Value):Prop:=
 (v=bu/\n=0/\aq=[])\/(∃p,(v=aC p 0 n (2*size)\/v=aC p 0 n (2*size+1))/\aq.length=n*size)
theorem iV.nil{size:Nat}:iV size bu 0 []:=.inl ⟨rfl,rfl,rfl⟩
theorem iV.len{size n:Nat}{v:Value}{aq:List Value}(h:iV size v n aq):aq.length=n*size:=by
 rcases h with⟨_,rfl,rfl⟩|⟨p,_,h⟩
 simp;exact h
theorem iV.bO{size n:Nat}{v:Value}{aq:List Value}(h:iV size v n aq):bO v H=some (.int .i64 n,H):=by rcases h with⟨rfl,rfl,_⟩|⟨p,rfl|rfl,_⟩<;>rfl
theorem aj.eF(h:aj H ae){i p:Nat}{b:ax}(an:ae[i]?=some (p,b)):aj (H.set p none) (ae.eraseIdx i):=by
 have hm:∀x∈ae.eraseIdx i,x∈ae/\x.1≠p:=by
  intro x ao;refine⟨mem_of_mem_eraseIdx ao,fun e=>?_⟩;obtain⟨j,bm⟩:=mem_iff_getElem?.1 ao;rw[List.getElem?_eraseIdx]at bm;have fo:(ae.map (·.1))[i]?=some p:=by simp_all
  have dw:i<(ae.map (·.1)).length:=by grind
  split at bm;rename_i JZ;have fN:(ae.map (·.1))[j]?=some p:=by simp_all
  have:=(List.getElem?_inj dw h.tk).1 (fo.trans fN.symm);omega;rename_i JZ;have fN:(ae.map (·.1))[j+1]?=some p:=by simp_all
  have:=(List.getElem?_inj dw h.tk).1 (fo.trans fN.symm);omega
 exact⟨h.dc,fun m hm=>Tr.AJ _ _ _ _ (h.jZ m hm),h.tk.sublist ((eraseIdx_sublist ae i).map _),fun x ao=>h.lt x (hm x ao).1,
  fun x ao aM=>(Tr.l9 _ _ _ _ (hm x ao).2).trans (h.get x (hm x ao).1 aM),h.ed,h.E8⟩
theorem anK{size n p o:Nat}{b:ax}{c:Nat}(h:H.get p=some b)(aU:o+n*size<=b.cells.length)(aB:c=n):tX H size n (aC p o c 0)=some ((b.cells.drop o).take (n*size)):=by
 unfold tX;simp only;split
 simp_all
 grind[Cb,yI,ni,n1,hB,beq_refl]
theorem HH{size n p o c:Nat}{b:ax}(h:H.get p=some b)(aU:o+n*size<=b.cells.length):tX H size n (aC p o n c)=some ((b.cells.drop o).take (n*size)):=anK h aU rfl
theorem x4{n bytes:Nat}(h:n*bytes<=140737488355328)(h2:n<=9223372036854775807):yK n bytes=true:=by
 unfold yK;rw[Bool.and_eq_true,mE,mE]
 grind
theorem Qy{size bytes n m:Nat}{v x:Value}{aq cY:List Value}(h:aj H (ae++bQ v aq))(hv:iV size v n aq)(bJ:0<size)(hm:nC x=some m)(ao:tX H size m x=some cY)(G0:0<m)
  (U:(n+m)*bytes<=140737488355328) (jC:n+m<=9223372036854775807) (h1:cY.all eL=true) (hlen:cY.length=m*size)
  (ah:∀p ab,aj ab (ae++[(p,⟨aq++cY,true⟩)])->iV size (aC p 0 (n+m) (2*size)) (n+m) (aq++cY)->aa (aC p 0 (n+m) (2*size)) ab):af (gw size bytes v x H) aa:=by
 have zf:∀p,iV size (aC p 0 (n+m) (2*size)) (n+m) (aq++cY):=fun p=>.inr ⟨p,.inl rfl,by rw[length_append,hlen,hv.len,Nat.add_mul]⟩
 unfold gw;simp only[hm,ao];have rQ:Nat.beq m 0=false:=by grind[eq_of_beq_eq_true]
 rcases hv with⟨rfl,rfl,rfl⟩|⟨p,hv,aD⟩
 unfold rA;simp only[rQ,Bool.false_eq_true,if_false];rw[if_pos (x4 (by simp_all) (by omega))];refine bW (show mB cY m (2*size) H=some (aC H.next 0 m (2*size),H.push cY)from rfl) ?_;have h:aj H ae:=by simp_all[bQ]
 have:=ah _ _ (h.push cY) (zf _)
 simp_all
 have tm:bQ v aq=[(p,⟨aq,true⟩)]:=by rcases hv with rfl|rfl<;>rfl
 rw[tm]at h;have an:(ae++[(p,(⟨aq,true⟩:ax))])[ae.length]?=some (p,⟨aq,true⟩):=by simp
 have oP:=h.at _ an (.inl rfl);have x5:=h.eF an;have he:(ae++[(p,(⟨aq,true⟩:ax))]).eraseIdx ae.length=ae:=by grind
 rw[he]at x5;unfold rA;rcases hv with rfl|rfl
 simp only[rQ,Bool.false_eq_true,if_false];rw[if_pos (x4 U jC)];have anL:Nat.beq (2*size) (2*size+1)=false:=by grind[eq_of_beq_eq_true]
 rw[anL];simp only[Bool.false_eq_true,if_false,beq_refl,if_true];unfold BW;rw[oP];have e:(au.o2 H p ⟨aq,true⟩&&(Nat.ble (0+n*size) (gi aq)&&kh eL cY))=true:=by unfold au.o2;rw[h.dc,hB,kH,h1,mE,mE,decide_eq_true (by omega:0+n*size<=aq.length)];simp
 simp only[e];have bt:iC (ry (qB aq (0+n*size)) 0) cY=aq++cY:=by simp_all[jm,n1,ni,take_of_length_le]
 rw[bt];exact bW (show mB (aq++cY) (n+m) (2*size) (H.set p none)=some (aC H.next 0 (n+m) (2*size),(H.set p none).push (aq++cY))from rfl) (ah _ _ (x5.push _) (zf _));simp only[rQ,Bool.false_eq_true,if_false];rw[if_pos (x4 U jC)];simp only[beq_refl,if_true];unfold z1;have ei:(if Nat.beq n 0=true then some []else s0 H p 0 (n*size))=some aq:=by grind[eq_of_beq_eq_true,length_eq_zero_iff,Cb,yI,ni,n1,hB,beq_refl]
 rw[ei];simp only[jm];have anM:aj H ae:=h.left;exact bW (show mB (aq++cY) (n+m) (2*size) H=some (aC H.next 0 (n+m) (2*size),H.push (aq++cY))from rfl) (ah _ _ (anM.push _) (zf _))
end
end Go.Ab
namespace Go.Ab
open Go Go.ChangeShapes Go.WideShapes
inductive fS (P:Program):List TypeId->Nat->List Value->List (List Value)->Prop
 | nil {N:Nat}:fS P [] N [] []
 | bool {t:TypeId} {cN:List TypeId} {N:Nat} {c:List Value} {b:List (List Value)} (v:Bool):P.underlying t=some .bool->fS P cN N c b->fS P (t::cN) N (.bool v::c) b
 | int {t:TypeId} {cN:List TypeId} {N:Nat} {c:List Value} {b:List (List Value)} {k:IntKind} (v:Int):P.underlying t=some (.int k)->(Lit.int k v).wf=true->fS P cN N c b->fS P (t::cN) N (.int k v::c) b
 | bS {t:TypeId} {cN:List TypeId} {N:Nat} {c:List Value} {b:List (List Value)} (v:ByteArray):P.underlying t=some .string->v.size<=maxLen->fS P cN N c b->fS P (t::cN) N (.string v::c) b
 | lg {t e:TypeId} {cN:List TypeId} {N:Nat} {c:List Value} {b:List (List Value)}:P.underlying t=some (.slice e)->fS P cN N c b->fS P (t::cN) N (.slice none 0 0::c) b
 | aC {t e:TypeId} {cN:List TypeId} {N:Nat} {c cells:List Value} {b bs:List (List Value)} (len:Nat):P.underlying t=some (.slice e)->len<=maxLen->cells.length=len*P.cellsOf e->fS P (List.replicate len e) (N+1) cells bs->fS P cN (N+1+bs.length) c b->
   fS P (t::cN) N (.slice (some ⟨N,0,none⟩) len (2*P.cellsOf e)::c) (cells::(bs++b))
 | struct {t:TypeId} {bb:Array Field} {cN:List TypeId} {N:Nat} {c:List Value} {b:List (List Value)}:P.underlying t=some (.struct bb)->fS P (bb.toList.map (·.type)++cN) N c b->fS P (t::cN) N c b
 | array {t e:TypeId} {n:Nat} {cN:List TypeId} {N:Nat} {c:List Value} {b:List (List Value)}:P.underlying t=some (.array n e)->fS P (List.replicate n e++cN) N c b->fS P (t::cN) N c b
theorem fS.append{P:Program}{cN HI:List TypeId}{N:Nat}{c bV:List Value}{b di:List (List Value)}(h:fS P cN N c b)(aT:fS P HI (N+b.length) bV di):fS P (cN++HI) N (c++bV) (b++di):=by
 induction h with
 | nil=>exact aT
 | bool v bf _ bg=>exact .bool v bf (bg aT)
 | int v bf aM _ bg=>exact .int v bf aM (bg aT)
 | bS v bf aM _ bg=>exact .bS v bf aM (bg aT)
 | lg bf _ bg=>exact .lg bf (bg aT)
 | @aC t e cN N c cells b bs len bf hm aD h1 h2 _ bg=>
  have a7:(cells::(bs++b))++di=cells::(bs++(b++di)):=by simp
  rw[a7];refine .aC len bf hm aD h1 (bg ?_)
  grind
 | struct bf _ bg=>refine .struct bf ?_;simp_all
 | array bf _ bg=>refine .array bf ?_;simp_all
def Le(P:Program):List Field->Nat->Bool
 | [],_=>true
 | f::bb,o=>Nat.beq f.offset o&&Le P bb (o+P.cellsOf f.type)
def Fa(P:Program):List Field->Nat
 | []=>0
 | f::bb=>P.cellsOf f.type+Fa P bb
def zg(P:Program):Nat->TypeId->Bool
 | 0,_=>false
 | d+1,t=>match P.underlying t with
  | some .bool=>Nat.beq (P.cellsOf t) 1
  | some (.int _)=>Nat.beq (P.cellsOf t) 1
  | some .string=>Nat.beq (P.cellsOf t) 1
  | some (.slice e)=>Nat.beq (P.cellsOf t) 1&&(Nat.blt 0 (P.cellsOf e)&&zg P d e)
  | some (.struct bb)=>Le P bb.toList 0&&(Nat.beq (Fa P bb.toList) (P.cellsOf t)&&bb.toList.all fun f=>zg P d f.type)
  | some (.array n e)=>Nat.beq (n*P.cellsOf e) (P.cellsOf t)&&zg P d e
  | _=>false
def np(N:Nat)(b8:List (Nat×Nat×Nat)):c8:=fun id=>if N<=id then b8[id-N]? else none
theorem HJ{N:Nat}{rT rU:List (Nat×Nat×Nat)}:∀id x,np N rT id=some x->np N (rT++rU) id=some x:=by
 intro id x h;unfold np at h⊢
 grind
theorem Qz{N:Nat}{rT rU:List (Nat×Nat×Nat)}:∀id x,np (N+rT.length) rU id=some x->np N (rT++rU) id=some x:=by
 intro id x h;unfold np at h⊢
 grind
def Fb(σ:c8)(w:World)(b:List Value)(x:Nat×Nat×Nat):Prop:=
 b≠[]->∃dD de eC,w.heap[x.1]?=some (.cells dD de eC)/\dD.size=x.2.2/\x.2.1+b.length<=x.2.2/\bL σ b ((dD.toList.drop x.2.1).take b.length)
structure uq (P:Program) (w:World) (cN:List TypeId) (N:Nat) (aq as:List Value) (bs:List (List Value)) (b8:List (Nat×Nat×Nat)):Prop where
 CL:fS P cN N as bs
 len:b8.length=bs.length
 AM:bL (np N b8) as aq
 k4:∀(i:Nat) (b:List Value) (x:Nat×Nat×Nat),bs[i]?=some b->b8[i]?=some x->Fb (np N b8) w b x
theorem Fb.mono{σ τ:c8}{w:World}{b:List Value}{x:Nat×Nat×Nat}(hm:∀id x,σ id=some x->τ id=some x)(h:Fb σ w b x):Fb τ w b x:=fun ak=>by obtain⟨dD,de,eC,h1,h2,h3,aG⟩:=h ak;exact⟨dD,de,eC,h1,h2,h3,aG.mono hm⟩
section
variable{H:Type}{enc:TypeId×Value->H}{P:Program}{w:World}
theorem uq.none{N:Nat}{w:World}:uq P w [] N [] [] [] []:=⟨.nil,rfl,.nil,fun i b x h=>by simp at h⟩
theorem uq.append{cN HI:List TypeId}{N:Nat}{aq bE as CM:List Value}{bs vB:List (List Value)}{b8 tn:List (Nat×Nat×Nat)}(h:uq P w cN N aq as bs b8)(aT:uq P w HI (N+bs.length) bE CM vB tn):
  uq P w (cN++HI) N (aq++bE) (as++CM) (bs++vB) (b8++tn):=by
 have U:∀id x,np (N+bs.length) tn id=some x->np N (b8++tn) id=some x:=by rw[<- h.len];exact Qz
 refine⟨h.CL.append aT.CL,by rw[length_append,length_append,h.len,aT.len],(h.AM.mono HJ).append (aT.AM.mono U),fun i b x ak ao=>?_⟩;by_cases an:i<bs.length;rw[List.getElem?_append_left an]at ak;rw[List.getElem?_append_left (by rw[h.len];exact an)]at ao;exact(h.k4 i b x ak ao).mono HJ;rw[List.getElem?_append_right (by omega)]at ak;rw[List.getElem?_append_right (by rw[h.len];omega),h.len]at ao;exact(aT.k4 _ b x ak ao).mono U
abbrev qk(enc:TypeId×Value->H)(P:Program)(w:World)(t:TypeId)(aq:List Value):Prop:=∃mM x,DataW.trod enc P w 0 (fun _=>true) true mM t aq=some x
theorem QA{e:TypeId}{cT:Nat}(rJ:∀aq,qk enc P w e aq->aq.length=cT->∀N,∃as bs b8,uq P w [e] N aq as bs b8):∀(n:Nat) (L:List Value),L.length=n*cT->(∀i,i<n->qk enc P w e ((L.drop (i*cT)).take cT))->∀N,∃as bs b8,uq P w (List.replicate n e) N L as bs b8
 | 0,L,aD,_,N=>by have:L=[]:=length_eq_zero_iff.1 (by omega);subst this;exact⟨_,_,_,uq.none⟩
 | n+1,L,aD,h,N=>by
  have wP:cT<=L.length:=by grind
  obtain⟨as,bs,b8,h1⟩:=rJ (L.take cT) (by have:=h 0 (by omega);simp_all) (by simp_all) N;obtain⟨CM,vB,tn,h2⟩:=QA rJ n (L.drop cT) (by grind) (fun i an=>by grind[drop_drop]) (N+bs.length);have:=h1.append h2
  grind[take_append_drop]
theorem YK:∀(bb:List Field) (o:Nat) (aq:List Value),Le P bb o=true->aq.length=o+Fa P bb->(∀f∈bb,∀ds,qk enc P w f.type ds->ds.length=P.cellsOf f.type->∀N,∃as bs b8,uq P w [f.type] N ds as bs b8)->
  (∀f∈bb,qk enc P w f.type ((aq.drop f.offset).take (P.cellsOf f.type)))->∀N,∃as bs b8,uq P w (bb.map (·.type)) N (aq.drop o) as bs b8
 | [],o,aq,_,aD,_,_,N=>by have:aq.drop o=[]:=drop_eq_nil_of_le (by simp_all[Fa]);rw[this];exact⟨_,_,_,uq.none⟩
 | f::bb,o,aq,aB,aD,rJ,h,N=>by
  have aB:(Nat.beq f.offset o&&Le P bb (o+P.cellsOf f.type))=true:=aB;rw[Bool.and_eq_true]at aB;have bM:=eq_of_beq_eq_true aB.1;have al:Fa P (f::bb)=P.cellsOf f.type+Fa P bb:=rfl;rw[al]at aD;have aJ:=h f (by simp);rw[bM]at aJ;obtain⟨as,bs,b8,h1⟩:=rJ f (by simp) _ aJ (by simp_all) N;obtain⟨CM,vB,tn,h2⟩:=YK bb (o+P.cellsOf f.type) aq aB.2 (by omega) (fun g hg=>rJ g (by simp[hg])) (fun g hg=>h g (by simp[hg])) (N+bs.length);have:=h1.append h2
  grind[drop_drop,take_append_drop]
theorem anN{a:Addr}{v:Value}{w:World}(h:w.cell? a=some v):∃dD de eC,w.heap[a.block]?=some (.cells dD de eC)/\a.spot=none/\dD[a.off]?=some v:=by
 unfold World.cell? at h;split at h
 simp_all
 cases h
theorem Lf:∀(d:Nat) (t:TypeId) (aq:List Value),zg P d t=true->qk enc P w t aq->aq.length=P.cellsOf t->∀N,∃as bs b8,uq P w [t] N aq as bs b8
 | 0,_,_,al,_,_,_=>by cases al
 | d+1,t,aq,al,⟨mM,x,h⟩,hlen,N=>by
  have anO:=al;unfold zg at al;split at al<;>try (cases al;done)
  ·rename_i bf;obtain⟨b,rfl,_⟩:=DataW.trod_bool bf h;exact⟨_,_,[],⟨.bool b bf .nil,rfl,.bool b .nil,fun i b x ak=>by simp at ak⟩⟩
  ·rename_i k bf;obtain⟨n,rfl,_,aM⟩:=DataW.trod_int bf h;exact⟨_,_,[],⟨.int n bf aM .nil,rfl,.int k n .nil,fun i b x ak=>by simp at ak⟩⟩
  ·rename_i bf;obtain⟨s,rfl,_,aM⟩:=DataW.trod_string bf h;exact⟨_,_,[],⟨.bS s bf aM .nil,rfl,.string s .nil,fun i b x ak=>by simp at ak⟩⟩
  ·rename_i e bf;simp only[Bool.and_eq_true,qI,decide_eq_true_eq]at al;obtain⟨_,CN,Fc⟩:=al;rcases Go.Deep.open_slice bf h with⟨rfl,_⟩|⟨a,len,cap,m,n,D,fA,rfl,ak,aD,hm,PC,_,aFv⟩
   ·exact⟨_,_,[],⟨.lg bf .nil,rfl,.lg .nil,fun i b x ak=>by simp at ak⟩⟩
   ·simp only[if_true]at PC;subst PC;by_cases EL:m=0
    ·-- nothing there at all
     subst EL;have tc:len=0:=by omega
     subst tc;refine⟨_,_,[(0,0,0)],⟨.aC 0 bf (zero_le _) (by simp) .nil .nil,rfl,?_,fun i b x ak ao=>?_⟩⟩
     ·exact .oL N 0 0 (P.cellsOf e) 0 0 0 0 a (by simp[np]) CN (Nat.le_refl _) (.inr ⟨rfl,rfl⟩) .nil
     ·cases i with
      | zero=>simp at ak;subst ak;intro dC;simp_all
      | succ i=>simp at ak
    ·-- the block
     have GM:∀i,i<m->∃bE,w.cells? 0 (a.add (i*P.cellsOf e)) (P.cellsOf e)=some bE/\qk enc P w e bE:=fun i an=>by grind
     obtain⟨anP,anQ,_⟩:=GM 0 (by omega);obtain⟨_,aFw,anR⟩:=World.cells?_some anQ;have Lg:=anR 0 CN;obtain⟨v0,anS⟩:∃v,anP[0]?=some v:=⟨_,List.getElem?_eq_getElem (by omega)⟩;rw[anS]at Lg;obtain⟨dD,de,eC,hh,rV,_⟩:=anN Lg;have eX:((a.add (0*P.cellsOf e)).add 0)=a:=by simp[Addr.add]
     rw[eX]at hh rV;have oP:∀i j,i<m->j<P.cellsOf e->∃bE,w.cells? 0 (a.add (i*P.cellsOf e)) (P.cellsOf e)=some bE/\bE[j]?=dD[a.off+(i*P.cellsOf e+j)]?:=by
      intro i j an bm;obtain⟨bE,h1,_⟩:=GM i an;obtain⟨_,h2,h3⟩:=World.cells?_some h1;refine⟨bE,h1,?_⟩;rw[<- h3 j bm,Go.Deep.add_add];unfold World.cell?;have mb:(a.add (i*P.cellsOf e+j)).block=a.block:=by grind[Addr.add]
      have amM:(a.add (i*P.cellsOf e+j)).off=a.off+(i*P.cellsOf e+j):=by grind[Addr.add]
      have hl:(a.add (i*P.cellsOf e+j)).spot=none:=by grind[Addr.add]
      simp_all
     have An:a.off+m*P.cellsOf e<=dD.size:=by
      obtain⟨bE,h1,h2⟩:=oP (m-1) (P.cellsOf e-1) (by omega) (by omega);obtain⟨_,h3,_⟩:=World.cells?_some h1;rw[List.getElem?_eq_getElem (by omega)]at h2;have:=(Array.getElem?_eq_some_iff.1 h2.symm).1;have a7:(m-1)*P.cellsOf e+P.cellsOf e=m*P.cellsOf e:=by rw[<- succ_mul];grind
      omega
     have j7:=mul_le_mul_right (P.cellsOf e) aD
     let L:=(dD.toList.drop a.off).take (len*P.cellsOf e)
     have hL:L.length=len*P.cellsOf e:=by grind
     have anT:∀i,i<len->qk enc P w e ((L.drop (i*P.cellsOf e)).take (P.cellsOf e)):=by
      intro i an;obtain⟨bE,h1,h2⟩:=GM i (by omega);obtain⟨_,h3,_⟩:=World.cells?_some h1;have PO:(i+1)*P.cellsOf e<=len*P.cellsOf e:=mul_le_mul_right _ an;rw[succ_mul]at PO;have:(L.drop (i*P.cellsOf e)).take (P.cellsOf e)=bE:=by
       apply ext_getElem?;intro j;rw[List.getElem?_take];split
       ·rename_i bm;obtain⟨YL,cg,cd⟩:=oP i j (by omega) bm
        grind
       simp_all
      simp_all
     obtain⟨as,bs,b8,bM⟩:=QA (fun ds U wP N=>Lf d e ds Fc U wP N) len L hL anT (N+1);have YM:as.length=len*P.cellsOf e:=by rw[bM.AM.length,hL]
     have YN:∀id x,np (N+1) b8 id=some x->np N ((a.block,a.off,dD.size)::b8) id=some x:=fun id x ao=>Qz (rT:=[(a.block,a.off,dD.size)]) id x ao
     refine⟨_,_,(a.block,a.off,dD.size)::b8,⟨.aC len bf (by omega) YM bM.CL .nil,by simp[bM.len],?_,fun i b x ak ao=>?_⟩⟩
     ·refine .oL N 0 len (P.cellsOf e) m a.block a.off dD.size a (by simp[np]) CN aD (.inl ⟨?_,by omega⟩) .nil;obtain⟨cA,of,cM⟩:=a
      simp_all
     ·cases i with
      | zero=>simp at ak ao;subst ak;subst ao;intro _;refine⟨dD,de,eC,hh,rfl,by grind,?_⟩;rw[YM];exact bM.AM.mono YN
      | succ i=>simp at ak ao;exact(bM.k4 i b x ak ao).mono YN
  ·rename_i bb bf;rw[Bool.and_eq_true,Bool.and_eq_true,all_eq_true]at al;obtain⟨h1,h2,h3⟩:=al;have h2:=eq_of_beq_eq_true h2;obtain⟨xs,n,_,_,_,YO,hf⟩:=DataW.trod_struct bf h;obtain⟨as,bs,b8,bM⟩:=YK (enc:=enc) (w:=w) bb.toList 0 aq h1 (by omega) (fun f vu ds U wP N=>Lf d f.type ds (h3 f vu) U wP N) (fun f vu=>by grind[mem_iff_getElem?]) N;rw[drop_zero]at bM;exact⟨as,bs,b8,⟨.struct bf (by rw[append_nil];exact bM.CL),bM.len,bM.AM,bM.k4⟩⟩
  ·rename_i n e bf;rw[Bool.and_eq_true]at al;have h1:=eq_of_beq_eq_true al.1;obtain⟨xs,m,_,_,_,YO,hf⟩:=DataW.trod_array bf h;obtain⟨as,bs,b8,bM⟩:=QA (enc:=enc) (w:=w) (fun ds U wP N=>Lf d e ds al.2 U wP N) n aq (by omega) (fun i an=>by grind) N;exact⟨as,bs,b8,⟨.array bf (by rw[append_nil];exact bM.CL),bM.len,bM.AM,bM.k4⟩⟩
end
end Go.Ab
namespace Go.Ab
open Go Go.ChangeShapes Go.WideShapes Go.RowKit
noncomputable def tp(H:au)(bs:List (List Value)):au:=match bs with
 | []=>H
 | b::r=>tp ⟨H.t.set H.next (match b with|[]=>none|_::_=>some ⟨b,false⟩),Nat.succ H.next,H.dS,H.ed⟩ r
inductive pe (P:Program):List TypeId->Nat->List Value->List (List Value)->Prop
 | nil {N:Nat}:pe P [] N [] []
 | fh {t:TypeId} {cN:List TypeId} {N:Nat} {v:Value} {vs:List Value} {b di:List (List Value)}:(∀bb,P.underlying t≠some (.struct bb))->(∀n e,P.underlying t≠some (.array n e))->fS P [t] N [v] b->pe P cN (N+b.length) vs di->pe P (t::cN) N (v::vs) (b++di)
 | agg {t:TypeId} {cN:List TypeId} {N:Nat} {aq vs:List Value} {b di:List (List Value)}:((∃bb,P.underlying t=some (.struct bb))\/∃n e,P.underlying t=some (.array n e))->fS P [t] N aq b->pe P cN (N+b.length) vs di->pe P (t::cN) N (.agg aq.toArray::vs) (b++di)
section
variable{H:Type}{enc:TypeId×Value->H}{P:Program}{W:World}
theorem anU{d:Nat}{base:Nat}{r:Reach}{t:TypeId}{v:Value}(al:zg P d t=true)(h:Value.okWide P W r base t v):
  v.cells.toList.length=P.cellsOf t/\(((∀bb,P.underlying t≠some (.struct bb))/\(∀n e,P.underlying t≠some (.array n e))/\v.cells.toList=[v])\/(((∃bb,P.underlying t=some (.struct bb))\/∃n e,P.underlying t=some (.array n e))/\∃aq,v=.agg aq)):=by
 have aFx:∀ {u:TypeDesc},P.underlying t=some u->(∀bb,u≠.struct bb)->(∀n e,u≠.array n e)->P.cellsOf t=1->(u=.bool\/u=.string\/(∃k,u=.int k)\/∃e,u=.slice e)->v.cells.toList.length=P.cellsOf t/\(((∀bb,P.underlying t≠some (.struct bb))/\(∀n e,P.underlying t≠some (.array n e))/\v.cells.toList=[v])\/(((∃bb,P.underlying t=some (.struct bb))\/∃n e,P.underlying t=some (.array n e))/\∃aq,v=.agg aq)):=by
  intro u bf h1 h2 aB ah;have e:v.cells.toList=[v]:=by unfold Value.okWide at h;rw[bf]at h;rcases ah with rfl|rfl|⟨k,rfl⟩|⟨e,rfl⟩<;>simp only at h<;>unfold Cell.okWide at h<;>rw[bf]at h<;>simp only at h<;>unfold Cell.ok at h<;>rw[bf]at h<;>cases v<;>first|rfl|exact absurd h (by simp)
  simp_all
 cases d with
 | zero=>cases al
 | succ d=>
  unfold zg at al;split at al<;>try (cases al;done)
  ·simp_all
  ·simp_all
  ·simp_all
  ·simp_all
  ·rename_i bb bf;unfold Value.okWide at h;rw[bf]at h;obtain⟨aq,rfl,h1,_⟩:=h;exact⟨h1,.inr ⟨.inl ⟨_,bf⟩,aq,rfl⟩⟩
  ·rename_i n e bf;unfold Value.okWide at h;rw[bf]at h;obtain⟨aq,rfl,h1,_⟩:=h;exact⟨h1,.inr ⟨.inr ⟨_,_,bf⟩,aq,rfl⟩⟩
theorem YP{d:Nat}{base:Nat}{r:Reach}:∀(cN:List TypeId) (vs:List Value) (ds:List (DataW H)) (p:List MemPlace),(∀t∈cN,zg P d t=true)->(∀(j:Nat) (t:TypeId) (v:Value),cN[j]?=some t->vs[j]?=some v->Value.okWide P W r base t v)->
  DataW.TrodAll enc P W 0 (fun _=>true) true cN vs ds p->∀N,∃as bs b8,pe P cN N as bs/\b8.length=bs.length/\bL (np N b8) as vs/\∀(i:Nat) (b:List Value) (x:Nat×Nat×Nat),bs[i]?=some b->b8[i]?=some x->Fb (np N b8) W b x
 | [],[],[],p,_,_,_,N=>⟨[],[],[],.nil,rfl,.nil,fun i b x h=>by simp at h⟩
 | [],[],_::_,p,_,_,h,N=>h.elim
 | [],_::_,_,p,_,_,h,N=>h.elim
 | _::_,[],_,p,_,_,h,N=>h.elim
 | _::_,_::_,[],p,_,_,h,N=>h.elim
 | t::cN,v::vs,x::ds,p,al,fq,h,N=>by
  have aJ:=h;have hv:=fq 0 t v rfl rfl;have YQ:=al t (by simp);obtain⟨dx,bP,⟨mM,hf⟩,U,_⟩:=aJ;have mj:qk enc P W t v.cells.toList:=⟨mM,_,hf⟩;obtain⟨hlen,jX⟩:=anU YQ hv;obtain⟨as,bs,b8,h1⟩:=Lf d t _ YQ mj hlen N;obtain⟨CM,vB,tn,h2,h3,aG,a6⟩:=YP cN vs ds bP (fun t ht=>al t (by simp[ht])) (fun j t v ht hv=>fq (j+1) t v (by simp_all) (by simp_all)) U (N+bs.length);have jC:∀id x,np (N+bs.length) tn id=some x->np N (b8++tn) id=some x:=by rw[<- h1.len];exact Qz
  have oM:∀(i:Nat) (b:List Value) (x:Nat×Nat×Nat),(bs++vB)[i]?=some b->(b8++tn)[i]?=some x->Fb (np N (b8++tn)) W b x:=by intro i b x ak ao;by_cases an:i<bs.length;rw[List.getElem?_append_left an]at ak;rw[List.getElem?_append_left (by rw[h1.len];exact an)]at ao;exact(h1.k4 i b x ak ao).mono HJ;rw[List.getElem?_append_right (by omega)]at ak;rw[List.getElem?_append_right (by rw[h1.len];omega),h1.len]at ao;exact(a6 _ b x ak ao).mono jC
  have Lh:(b8++tn).length=(bs++vB).length:=by rw[length_append,length_append,h1.len,h3]
  rcases jX with⟨ss,E6,aB⟩|⟨aU,aq,rfl⟩
  rw[aB]at h1;have kn:=h1.AM;obtain⟨a,rfl⟩:∃a,as=[a]:=length_eq_one_iff.1 (by rw[kn.length];rfl);exact⟨a::CM,bs++vB,b8++tn,.fh ss E6 h1.CL h2,Lh,(kn.mono HJ).cons (aG.mono jC),oM⟩;refine⟨.agg as.toArray::CM,bs++vB,b8++tn,.agg aU h1.CL h2,Lh,.agg _ _ ?_ (aG.mono jC),oM⟩;exact h1.AM.mono HJ
end
theorem Li:∀n,(pQ n).t.sE n
 | 0=>fun m hm=>absurd hm (not_lt_zero _)
 | n+1=>fun m hm=>by
  have e:(pQ (n+1)).t=(pQ n).t.set n none:=rfl;rw[e];by_cases h:m=n
  simp_all[Tr.AK,Li]
  exact Tr.AJ _ _ _ _ (Li n m (by omega))
noncomputable def Fe(b:List Value):Option ax:=match b with|[]=>none|_::_=>some ⟨b,false⟩
theorem anV(H:au)(b:List Value)(r:List (List Value)):tp H (b::r)=tp ⟨H.t.set H.next (Fe b),Nat.succ H.next,H.dS,H.ed⟩ r:=rfl
structure anW (H:au) (bs:List (List Value)) (ab:au):Prop where
 next:ab.next=H.next+bs.length
 dS:ab.dS=H.dS
 ed:ab.ed=H.ed
 jZ:H.t.sE H.next->ab.t.sE ab.next
 old:∀i,i<H.next->ab.get i=H.get i
 cY:H.t.sE H.next->∀j b,bs[j]?=some b->ab.get (H.next+j)=Fe b
 a1:∀i b,ab.get i=some b->H.get i=some b\/∃j c,i=H.next+j/\bs[j]?=some c/\Fe c=some b
theorem QB:∀(bs:List (List Value)) (H:au),anW H bs (tp H bs)
 | [],H=>⟨rfl,rfl,rfl,fun h=>h,fun _ _=>rfl,fun _ j b h=>by simp at h,fun i b h=>.inl h⟩
 | b::r,H=>by
  have bg:=QB r ⟨H.t.set H.next (Fe b),Nat.succ H.next,H.dS,H.ed⟩;rw[anV];have Lj:H.t.sE H.next->(H.t.set H.next (Fe b)).sE (Nat.succ H.next):=fun bf m hm=>by by_cases h:m=H.next;subst h;exact(Tr.AK _ _ _ bf).2;exact Tr.AJ _ _ _ _ (bf m (by omega))
  refine⟨by rw[bg.next];simp only[length_cons];omega,bg.dS,bg.ed,fun bf=>bg.jZ (Lj bf),fun i an=>?_,fun bf j c bm=>?_,fun i x ao=>?_⟩;rw[bg.old i (by show i<Nat.succ H.next;omega)];exact Tr.l9 _ _ _ _ (by omega);cases j with
  | zero=>simp at bm;subst bm;rw[bg.old (H.next+0) (by show _<Nat.succ H.next;omega)];exact(Tr.AK _ _ _ bf).1
  | succ j=>have:=bg.cY (Lj bf) j c (by simpa using bm);rw[show H.next+(j+1)=Nat.succ H.next+j by omega];exact this
  rcases bg.a1 i x ao with h|⟨j,c,h1,h2,h3⟩
  rcases Tr.Er _ _ _ _ _ h with⟨a7,bt⟩|⟨_,bt⟩
  exact .inr ⟨0,b,a7,by simp,bt⟩;exact .inl bt;exact .inr ⟨j+1,c,by rw[h1];show Nat.succ H.next+j=_;omega,by simpa using h2,h3⟩
def kK(N:Nat):List (List Value)->List (Nat×ax)
 | []=>[]
 | b::r=>(N,⟨b,false⟩)::kK (N+1) r
theorem Lk:∀(bs:List (List Value)) (N:Nat) (x:Nat×ax),x∈kK N bs->∃(j:Nat) (b:List Value),bs[j]?=some b/\x=(N+j,⟨b,false⟩)
 | [],N,x,h=>by cases h
 | b::r,N,x,h=>by
  rcases mem_cons.1 h with rfl|h
  exact⟨0,b,by simp,rfl⟩;obtain⟨j,c,h1,h2⟩:=Lk r (N+1) x h;exact⟨j+1,c,by simpa using h1,by rw[h2];congr 1;omega⟩
theorem YR:∀(bs:List (List Value)) (N:Nat),((kK N bs).map (·.1)).Nodup
 | [],N=>.nil
 | b::r,N=>by show(N::(kK (N+1) r).map (·.1)).Nodup;refine nodup_cons.2 ⟨fun h=>?_,YR r (N+1)⟩;obtain⟨x,ao,e⟩:=mem_map.1 h;obtain⟨j,c,_,rfl⟩:=Lk r (N+1) x ao;simp at e;omega
theorem aFy(G:Nat)(bs:List (List Value)):aj (tp (pQ G) bs) (kK G bs):=by
 have h:=QB bs (pQ G);refine⟨by rw[h.dS];rfl,h.jZ (Li G),YR bs G,fun x ao=>?_,fun x ao aM=>?_,h.ed,fun x ao=>(by cases ao)⟩;obtain⟨j,b,h1,rfl⟩:=Lk bs G x ao;rw[h.next];have:=(List.getElem?_eq_some_iff.1 h1).1;show G+j<G+bs.length;omega;obtain⟨j,b,h1,rfl⟩:=Lk bs G x ao;have:(tp (pQ G) bs).get (G+j)=Fe b:=h.cY (Li G) j b h1;rcases aM with aM|aM
 cases aM;show(tp (pQ G) bs).get (G+j)=_;rw[this];cases b with
 | nil=>simp_all
 | cons _ _=>rfl
section
variable{H:Type}{enc:TypeId×Value->H}{P:Program}{W:World}[eA]
theorem aFz(dW:KQ P=true)(bM:@Hl (n9 W) _ P){f:FuncId}{cN:List TypeId}{d:Nat}(al:∀t∈cN,zg P d t=true)
  (ah:∀as bs,pe P cN P.globals.size as bs->ay P f as (tp (pQ P.globals.size) bs) fun v _=>v=.bool true)
  {base:Nat} {r:Reach} {args:Array Value} {ds:List (DataW H)} {p:List MemPlace} (fq:∀(j:Nat) (t:TypeId) (v:Value),cN[j]?=some t->args.toList[j]?=some v->Value.okWide P W r base t v)
  (hA:DataW.TrodAll enc P W 0 (fun _=>true) true cN args.toList ds p):Calls P f args W fun e aW=>e=.returned (.bool true)/\RowKit.Below W.heap.size W aW:=by
 obtain⟨as,bs,b8,h1,h2,h3,aG⟩:=YP cN args.toList ds p al fq hA P.globals.size;obtain⟨n,c6,v,ab,vC,rfl⟩:=ah as bs h1;have aD:=QB bs (pQ P.globals.size)
 let σ:c8:=fun id=>if id<P.globals.size then some (id,0,0)else np P.globals.size b8 id
 have eo:∀id x,np P.globals.size b8 id=some x->σ id=some x:=fun id x ao=>by
  show(if _ then _ else _)=_
  simp_all[if_neg,np]
 have oP:∀id o,(tp (pQ P.globals.size) bs).cX id=some o->∃(j:Nat) (b:List Value),id=P.globals.size+j/\bs[j]?=some b/\b≠[]/\o=.cells ⟨b,false⟩:=by
  intro id o fp;unfold au.cX at fp;rw[aD.ed]at fp;cases hg:(tp (pQ P.globals.size) bs).get id with
  | none=>rw[hg]at fp;cases fp
  | some x=>
   rw[hg]at fp;cases fp;rcases aD.a1 id x hg with h|⟨j,c,a7,bt,ei⟩
   simp_all[X5]
   cases c with
   | nil=>cases ei
   | cons y z=>cases ei;exact⟨j,_,a7,bt,by simp,rfl⟩
 letI:=n9 W
 have eE:hK P W.heap.size σ (tp (pQ P.globals.size) bs).cX (tp (pQ P.globals.size) bs) W:=by
  refine⟨⟨fun id b ak=>?_,fun id b ak aM=>?_,fun i j iU gI _ an _ aM=>?_⟩,fun id b ak=>ak,Nat.le_refl _,fun g hg=>⟨0,by grind⟩,⟨fun i an=>?_,fun i an=>?_⟩,by rw[aD.dS];exact zero_le _,fun _ _=>rfl,Nat.le_refl _⟩;obtain⟨j,c,rfl,bt,ei,rfl⟩:=oP id b ak;have dw:j<b8.length:=by grind
  obtain⟨x,ao⟩:∃x,b8[j]?=some x:=⟨_,List.getElem?_eq_getElem dw⟩;obtain⟨dD,de,eC,bP,q2,cS,eI⟩:=aG j c x bt ao ei;obtain⟨wZ,HK,Ll⟩:=x;refine⟨wZ,HK,Ll,dD,de,eC,eo _ _ ?_,bP,q2,cS,eI.mono eo,fun h=>by cases h⟩
  simp_all[np]
  obtain⟨j,c,_,_,_,rfl⟩:=oP id b ak;cases aM;obtain⟨j,c,_,_,_,rfl⟩:=oP i iU an;cases aM;cases bM:(tp (pQ P.globals.size) bs).cX i with
  | none=>simp_all
  | some o=>obtain⟨j,c,rfl,bt,_,_⟩:=oP i o bM;have:=(List.getElem?_eq_some_iff.1 bt).1;rw[aD.next];show P.globals.size+j<P.globals.size+bs.length;omega
  rw[aD.ed]at an;exact absurd rfl an
 have cW:gN σ (tp (pQ P.globals.size) bs).next ab.next:=by
  intro i h1 _;rw[aD.next]at h1;have h1:P.globals.size+bs.length<=i:=h1;show(if i<P.globals.size then _ else _)=_;rw[if_neg (by omega)];unfold np
  grind
 have aB:=((amX (X4 dW) bM n).call f as _ c6 (.bool true) ab vC W.heap.size σ _ W args eE cW (h3.mono eo)).2;refine(CallsIn.calls aB (alo none)).mono ?_;rintro e aW ⟨aQ,τ,aT,rfl,hv,al⟩;cases hv;refine⟨rfl,al.hD.os,al.hD.tape,al.hD.output,al.hD.size,fun k ah=>al.hD.lE k ah ?_⟩;rintro⟨id,b,_,_,ak,aM,_⟩;obtain⟨j,c,_,_,_,rfl⟩:=oP id b ak;cases aM
omit [eA] in
theorem anX{base:Nat}{cM:Nat->Bool}{aO:Bool}:∀ {cN:List TypeId} {vs:List Value} {ds:List (DataW H)} {p:List MemPlace},DataW.TrodAll enc P W base cM aO cN vs ds p->ds.length=cN.length
 | [],[],[],_,_=>rfl
 | [],[],_::_,_,h=>h.elim
 | [],_::_,_,_,h=>h.elim
 | _::_,[],_,_,h=>h.elim
 | _::_,_::_,[],_,h=>h.elim
 | _::_,_::_,_::_,_,⟨_,_,_,h,_⟩=>by simp[anX h]
omit [eA] in
theorem YS(aD:laidOutB P=true){W':World}(ak:RowKit.Below W.heap.size W W'):∀(cN:List TypeId) (vs:List Value) (ds:List (DataW H)) (p:List MemPlace),(∀t∈cN,P.readableRec t=true/\t<P.types.size)->
  DataW.TrodAll enc P W 0 (fun _=>true) true cN vs ds p->(∀x∈p,x.block<W.heap.size)->DataW.TrodAll enc P W' 0 (fun b=>decide (b<W.heap.size)) true cN vs ds p
 | [],[],[],p,_,h,_=>h
 | [],[],_::_,p,_,h,_=>h.elim
 | [],_::_,_,p,_,h,_=>h.elim
 | _::_,[],_,p,_,h,_=>h.elim
 | _::_,_::_,[],p,_,h,_=>h.elim
 | t::cN,v::vs,d::ds,p,U,⟨dx,bP,h1,h2,e⟩,dw=>by subst e;obtain⟨r1,r2⟩:=U t (by simp);exact⟨dx,bP,RowKit.Below.trod aD r1 r2 h1 ak fun x ao=>dw x (by simp[ao]),YS aD ak cN vs ds bP (fun t ht=>U t (by simp[ht])) h2 fun x ao=>dw x (by simp[ao]),rfl⟩
omit [eA] in
theorem aFA{f:Func}{s:ChangeSpec}{Cw anY anZ:Bool}{W':World}{args:Array Value}{v:Value}{ds gs:List (DataW H)}{before:List MemPlace}(aD:laidOutB P=true)
  (mj:∀t∈f.params.toList,P.readableRec t=true/\t<P.types.size) (YT:s.vars=[]) (hW:DataW.Whole enc P f.params.toList s.vars Cw W args.toList ds gs before) (ak:RowKit.Below W.heap.size W W')
  (sw:∀(b:Nat) (cM:Nat->Bool) (aO:Bool),DataW.TrodAll enc P W' b cM aO f.resultTypes.toList (v.resultList f.resultTypes.size) (s.fn H (ds++gs)).results [])
  (Cz:(s.fn H (ds++gs)).args=ds) (an0:(s.fn H (ds++gs)).vars=[]):s.post enc P f Cw anY anZ false W args v W':=by
 have dw:∀x∈before,x.block<W.heap.size:=fun x ao=>hW.lt x ao
 have AN:=hW;obtain⟨p,q,h1,h2,rfl,h3,aG⟩:=hW;rw[YT]at h2;obtain⟨rfl,rfl⟩:=trodVars_none h2;refine⟨ds,[],_,[],p,[],AN,sw _ _ _,?_,?_,ak.frame _,fun h=>by cases h⟩
 simp_all[YS]
 rw[YT,an0];exact rfl
end
end Go.Ab
namespace Go.Ab
open Go
local instance:h7:=⟨fun _=>none,0⟩
section
variable[eA][b0]{P:Program}{H:au}{ae:List (Nat×ax)}
omit [eA] in
theorem az{L:List (Nat×ax)}{k:Nat}{x:Nat×ax}(h:L[k]?=some x):(ae++L)[ae.length+k]?=some x:=by grind
omit [eA] in
theorem aL{L:List (Nat×ax)}{j:Nat}{x:Nat×ax}(h:ae[j]?=some x):(ae++L)[j]?=some x:=by grind
omit [eA] in
theorem cD{L:List (Nat×ax)}{k:Nat}{x:Nat×ax}:(ae++L).set (ae.length+k) x=ae++L.set k x:=by simp_all
theorem aj.cD{L:List (Nat×ax)}{k:Nat}{x:Nat×ax}(h:aj H ((ae++L).set (ae.length+k) x)):aj H (ae++L.set k x):=by simp_all
omit [eA] in
theorem QC{m:Nat}{x:Nat×ax}(h:ae[m]?=some x):ae.set m x=ae:=by
 have aD:=(List.getElem?_eq_some_iff.1 h).1;apply ext_getElem?
 grind
theorem aj.lE{L:List (Nat×ax)}(n:Nat)(h:aj H (ae++L)):aj H (ae++L.take n):=h.sub (List.Sublist.append (List.Sublist.refl _) (take_sublist n L))
def x6(ae:List (Nat×ax))(v:Value)(k:IntKind)(xs:List Int):Prop:=
 (v=bu/\xs=[])\/∃(p c j:Nat),v=aC p 0 xs.length c/\ae[j]?=some (p,(⟨xs.map (Value.int k),false⟩:ax))
theorem x6.len{v:Value}{k:IntKind}{xs:List Int}(h:x6 ae v k xs):bO v H=some (int xs.length,H):=by rcases h with⟨rfl,rfl⟩|⟨p,c,j,rfl,_⟩<;>rfl
theorem x6.bc{v:Value}{k:IntKind}{xs:List Int}(h:x6 ae v k xs)(bJ:0<xs.length):∃(p c j:Nat),v=aC p 0 xs.length c/\ae[j]?=some (p,(⟨xs.map (Value.int k),false⟩:ax)):=by
 rcases h with⟨_,rfl⟩|h
 simp at bJ;exact h
theorem an1{k:IntKind}{n:Int}(h1:-9223372036854775808<=n)(h2:n<=9223372036854775807):iw .i64 (.int k n) H=some (int n,H):=by show some (Value.int .i64 (iN .i64 n),H)=_;rw[AI h1 h2]
theorem Lm{k:IntKind}{t:TypeId}{c:Bool}{a b:Int}(ak:b≠0):(ar P .rem t c).f (.int k a) (.int k b)=some (.int k (a.tmod b)):=by
 rw[rS a b rfl];show(match pD b 0 with|true=>none|false=>some (Value.int k (a.tmod b)))=_
 simp_all[sq]
end
theorem an2{x:Int}(h:(Lit.int .u64 x).wf=true):0<=x/\x<=18446744073709551615:=by
 have h:(decide (IntKind.u64.min<=x)&&decide (x<=IntKind.u64.max))=true:=h;have a7:IntKind.u64.min=0:=by decide
 have bt:IntKind.u64.max=18446744073709551615:=by decide
 simp_all
theorem Ff{x:Int}(h:(Lit.int .u8 x).wf=true):0<=x/\x<=255:=by
 have h:(decide (IntKind.u8.min<=x)&&decide (x<=IntKind.u8.max))=true:=h;have a7:IntKind.u8.min=0:=by decide
 have bt:IntKind.u8.max=255:=by decide
 simp_all
theorem YU{x:Int}(h:(Lit.int .u16 x).wf=true):0<=x/\x<=65535:=by
 have h:(decide (IntKind.u16.min<=x)&&decide (x<=IntKind.u16.max))=true:=h;have a7:IntKind.u16.min=0:=by decide
 have bt:IntKind.u16.max=65535:=by decide
 simp_all
section
variable{P:Program}
theorem Ln{e:TypeId}{k:IntKind}(he:P.underlying e=some (.int k)):∀(n N:Nat) (c:List Value) (b:List (List Value)),fS P (List.replicate n e) N c b->b=[]/\∃xs:List Int,c=xs.map (Value.int k)/\xs.length=n/\∀x∈xs,(Lit.int k x).wf=true
 | 0,N,c,b,h=>by cases h;exact⟨rfl,[],rfl,rfl,by simp⟩
 | n+1,N,c,b,h=>by
  have h:fS P (e::List.replicate n e) N c b:=h;cases h with
  | int v bf aM h2=>rw[he]at bf;cases bf;obtain⟨rfl,xs,rfl,rfl,ao⟩:=Ln he n N _ _ h2;exact⟨rfl,v::xs,rfl,rfl,fun y ba=>by rcases mem_cons.1 ba with rfl|ba;exact aM;exact ao y ba⟩
  | bool v bf _=>rw[he]at bf;cases bf
  | bS v bf _ _=>rw[he]at bf;cases bf
  | lg bf _=>rw[he]at bf;cases bf
  | aC len bf _ _ _ _=>rw[he]at bf;cases bf
  | struct bf _=>rw[he]at bf;cases bf
  | array bf _=>rw[he]at bf;cases bf
theorem pf{t:TypeId}{k:IntKind}(ht:P.underlying t=some (.int k)){cN:List TypeId}{N:Nat}{c:List Value}{b:List (List Value)}(h:fS P (t::cN) N c b):∃(x:Int) (bV:List Value),c=.int k x::bV/\(Lit.int k x).wf=true/\fS P cN N bV b:=by
 cases h with
 | int v bf aM h=>grind
 | bool v bf _=>simp_all
 | bS v bf _ _=>simp_all
 | lg bf _=>simp_all
 | aC len bf _ _ _ _=>simp_all
 | struct bf _=>simp_all
 | array bf _=>simp_all
theorem Lo{N:Nat}{c:List Value}{b:List (List Value)}(h:fS P [] N c b):c=[]/\b=[]:=by cases h;simp_all
theorem Fg{t e:TypeId}(ht:P.underlying t=some (.slice e)){cN:List TypeId}{N:Nat}{c:List Value}{b:List (List Value)}(h:fS P (t::cN) N c b):
  (∃bV,c=bu::bV/\fS P cN N bV b)\/∃(len:Nat) (cells bV:List Value) (bs di:List (List Value)),c=aC N 0 len (2*P.cellsOf e)::bV/\b=cells::(bs++di)/\len<=maxLen/\cells.length=len*P.cellsOf e/\fS P (List.replicate len e) (N+1) cells bs/\fS P cN (N+1+bs.length) bV di:=by
 cases h with
 | int v bf aM h=>simp_all
 | bool v bf _=>simp_all
 | bS v bf _ _=>simp_all
 | lg bf h=>simp_all
 | aC len bf h1 h2 h3 aG=>rw[ht]at bf;cases bf;grind
 | struct bf _=>simp_all
 | array bf _=>simp_all
theorem YV{t:TypeId}{cN:List TypeId}{N:Nat}{as:List Value}{b:List (List Value)}(h:pe P (t::cN) N as b)(aU:∀bb,P.underlying t≠some (.struct bb))(E6:∀n e,P.underlying t≠some (.array n e)):
  ∃v vs b1 b2,as=v::vs/\b=b1++b2/\fS P [t] N [v] b1/\pe P cN (N+b1.length) vs b2:=by
 cases h with
 | fh _ _ h1 h2=>grind
 | agg h1 _ _=>simp_all
theorem YW{t:TypeId}{cN:List TypeId}{N:Nat}{as:List Value}{b:List (List Value)}(h:pe P (t::cN) N as b)(aU:(∃bb,P.underlying t=some (.struct bb))\/∃n e,P.underlying t=some (.array n e)):
  ∃aq vs b1 b2,as=.agg aq.toArray::vs/\b=b1++b2/\fS P [t] N aq b1/\pe P cN (N+b1.length) vs b2:=by
 cases h with
 | fh h1 h2 _ _=>simp_all
 | agg _ h1 h2=>grind
theorem aFB{N:Nat}{as:List Value}{b:List (List Value)}(h:pe P [] N as b):as=[]/\b=[]:=by cases h;simp_all
theorem Lp(bs vB:List (List Value)):∀N,kK N (bs++vB)=kK N bs++kK (N+bs.length) vB:=by
 induction bs with
 | nil=>intro N;rfl
 | cons b r bg=>grind[kK]
theorem x6.app{ae b9:List (Nat×ax)}{v:Value}{k:IntKind}{xs:List Int}(h:x6 ae v k xs):x6 (ae++b9) v k xs:=by
 rcases h with h|⟨p,c,j,h1,h2⟩
 exact .inl h;exact .inr ⟨p,c,j,h1,aL h2⟩
theorem x6.app'{ae b9:List (Nat×ax)}{v:Value}{k:IntKind}{xs:List Int}(h:x6 b9 v k xs):x6 (ae++b9) v k xs:=by
 rcases h with h|⟨p,c,j,h1,h2⟩
 exact .inl h;exact .inr ⟨p,c,ae.length+j,h1,az h2⟩
def x7(ae:List (Nat×ax))(v:Value)(xs:List (Int×Int)):Prop:=
 (v=bu/\xs=[])\/∃(p c j:Nat),v=aC p 0 xs.length c/\ae[j]?=some (p,(⟨xs.flatMap fun a=>[int a.1,int a.2],false⟩:ax))
theorem x7.len{ae:List (Nat×ax)}{v:Value}{xs:List (Int×Int)}{H:au}(h:x7 ae v xs):bO v H=some (int xs.length,H):=by rcases h with⟨rfl,rfl⟩|⟨p,c,j,rfl,_⟩<;>rfl
theorem x7.bc{ae:List (Nat×ax)}{v:Value}{xs:List (Int×Int)}(h:x7 ae v xs)(bJ:0<xs.length):∃(p c j:Nat),v=aC p 0 xs.length c/\ae[j]?=some (p,(⟨xs.flatMap fun a=>[int a.1,int a.2],false⟩:ax)):=by
 rcases h with⟨_,rfl⟩|h
 simp at bJ;exact h
theorem x7.app{ae b9:List (Nat×ax)}{v:Value}{xs:List (Int×Int)}(h:x7 ae v xs):x7 (ae++b9) v xs:=by
 rcases h with h|⟨p,c,j,h1,h2⟩
 exact .inl h;exact .inr ⟨p,c,j,h1,aL h2⟩
theorem x7.app'{ae b9:List (Nat×ax)}{v:Value}{xs:List (Int×Int)}(h:x7 b9 v xs):x7 (ae++b9) v xs:=by
 rcases h with h|⟨p,c,j,h1,h2⟩
 exact .inl h;exact .inr ⟨p,c,ae.length+j,h1,az h2⟩
end
end Go.Ab
namespace Go.Ab
open Go
local instance:h7:=⟨fun _=>none,0⟩
inductive pS|b|i (k:IntKind)|s
def an3:pS->Value->Prop
 | .b,.bool _=>True
 | .i k,.int e6 _=>k=e6
 | .s,.string _=>True
 | _,_=>False
def ko:List pS->List Value->Prop
 | [],[]=>True
 | k::hc,v::vs=>an3 k v/\ko hc vs
 | _,_=>False
def Fh:Value->Value->Bool
 | .bool a,.bool b=>a==b
 | .int _ a,.int _ b=>decide (a=b)
 | .string a,.string b=>a.data.toList==b.data.toList
 | _,_=>false
def pg:List Value->List Value->Bool
 | [],[]=>true
 | x::xs,y::bh=>Fh x y&&pg xs bh
 | _,_=>false
theorem ko.len:∀ {hc:List pS} {vs:List Value},ko hc vs->vs.length=hc.length
 | [],[],_=>rfl
 | _::_,_::_,h=>by simp[ko.len h.2]
theorem ko.app:∀ {a b:List pS} {vs:List Value},ko (a++b) vs->ko a (vs.take a.length)/\ko b (vs.drop a.length)
 | [],b,vs,h=>⟨trivial,h⟩
 | k::a,b,v::vs,h=>⟨⟨h.1,(ko.app (a:=a) h.2).1⟩,(ko.app (a:=a) h.2).2⟩
theorem QD:∀(n:Nat) (xs bh:List Value),n<=xs.length->xs.length=bh.length->pg xs bh=(pg (xs.take n) (bh.take n)&&pg (xs.drop n) (bh.drop n))
 | 0,xs,bh,_,_=>by simp[pg]
 | n+1,x::xs,y::bh,h,e=>by show(Fh x y&&pg xs bh)=((Fh x y&&pg (xs.take n) (bh.take n))&&pg (xs.drop n) (bh.drop n));rw[QD n xs bh (by simpa using h) (by simpa using e),Bool.and_assoc]
 | n+1,[],_,h,_=>by simp at h
 | n+1,_::_,[],_,e=>by simp at e
section
variable(P:Program)
def Lq(F:TypeId->Option (List pS)):List Field->Nat->Option (List pS)
 | [],_=>some []
 | f::bb,off=>
  if f.name== "_" then none else
  match Nat.beq f.offset off,hk P f.type,F f.type with
  | true,some m,some hc=>(match Nat.beq hc.length m,Lq F bb (off+m)with
   | true,some r=>some (hc++r)
   | _,_=>none)
  | _,_,_=>none
def Fi:Nat->List pS->List pS
 | 0,_=>[]
 | n+1,l=>l++Fi n l
def rW:Nat->TypeId->Option (List pS)
 | 0,_=>none
 | d+1,t=>
  match P.underlying t,qC P t with
  | some .bool,some false=>some [.b]
  | some (.int k),some false=>some [.i k]
  | some .string,some false=>some [.s]
  | some (.struct bb),some true=>if P.stoodInHeld t then none else Lq P (rW d) bb.toList 0
  | some (.array n e),some true=>(match hk P e,rW d e with
   | some m,some hc=>(match Nat.beq hc.length m with|true=>some (Fi n hc)|false=>none)
   | _,_=>none)
  | _,_=>none
variable{P}
def sG(P:Program)(t:TypeId)(aq:List Value):Option Value:=
 match qC P t with
 | some true=>some (.agg aq.toArray)
 | some false=>aq[0]?
 | none=>none
theorem Lr{t:TypeId}{aq:List Value}{off n:Nat}{hc:List pS}(al:hk P t=some n)(hf:ko hc ((aq.drop off).take n))(ah:hc.length=n)(h1:qC P t=some false->n=1):tU P t aq off=sG P t ((aq.drop off).take n):=by
 unfold tU sG;rw[al]
 match h:qC P t with
 | some true=>grind[ni,n1]
 | some false=>simp_all[wB]
 | none=>rfl
theorem QE{d:Nat}{t:TypeId}{hc:List pS}(h:rW P d t=some hc)(bn:qC P t=some false):hc.length=1:=by
 cases d with
 | zero=>cases h
 | succ d=>grind[rW]
theorem Ls{d:Nat}{t:TypeId}{hc:List pS}{xs:List Value}(h:rW P d t=some hc)(ao:ko hc xs):∃v,sG P t xs=some v:=by
 unfold sG
 match bn:qC P t with
 | some true=>simp_all
 | some false=>
  have h1:=QE h bn;have:=ao.len
  simp_all
 | none=>
  cases d with
  | zero=>cases h
  | succ d=>simp_all[rW]
def QF(P:Program)(tV:TypeId->Value->Value->Option Bool)(F:TypeId->Option (List pS)):Prop:=
 ∀t hc xs bh x y,F t=some hc->ko hc xs->ko hc bh->sG P t xs=some x->sG P t bh=some y->tV t x y=some (pg xs bh)
theorem YX{tV:TypeId->Value->Value->Option Bool}{d:Nat}(hg:QF P tV (rW P d))(xs bh:List Value):
  ∀(bb:List Field) (off:Nat) (hc:List pS),Lq P (rW P d) bb off=some hc->ko hc (xs.drop off)->ko hc (bh.drop off)->eqFields P tV xs bh bb=some (pg (xs.drop off) (bh.drop off))
 | [],off,hc,h,ao,ba=>by cases h;have a7:xs.drop off=[]:=length_eq_zero_iff.1 ao.len;have bt:bh.drop off=[]:=length_eq_zero_iff.1 ba.len;rw[a7,bt];rfl
 | f::bb,off,hc,h,ao,ba=>by
  unfold Lq at h;unfold eqFields;split at h;cases h;rename_i an4;rw[if_neg an4];split at h;rename_i m aFC bM al hf;split at h;rename_i r aD U;cases h;have bM:=eq_of_beq_eq_true bM;have aD:=eq_of_beq_eq_true aD;subst bM;obtain⟨qg,uf⟩:=ao.app;obtain⟨zh,w0⟩:=ba.app;rw[aD]at qg uf zh w0;have h1:qC P f.type=some false->m=1:=fun bn=>by grind[QE]
  rw[Lr al qg aD h1,Lr al zh aD h1];obtain⟨v,hv⟩:=Ls hf qg;obtain⟨w,aM⟩:=Ls hf zh;rw[hv,aM];simp only;rw[hg _ _ _ _ _ _ hf qg zh hv aM];rw[drop_drop]at uf w0;have bg:=YX hg xs bh bb (f.offset+m) r U uf w0;have QG:=ao.len;have QH:=ba.len;rw[length_append]at QG QH;rw[QD m (xs.drop f.offset) (bh.drop f.offset) (by omega) (by omega),drop_drop,drop_drop];cases aB:pg ((xs.drop f.offset).take m) ((bh.drop f.offset).take m)with
  | true=>simp_all
  | false=>rfl
  cases h;cases h
theorem YY{tV:TypeId->Value->Value->Option Bool}{d:Nat}(hg:QF P tV (rW P d)){e:TypeId}{m:Nat}{hc:List pS}(al:hk P e=some m)(hf:rW P d e=some hc)(aD:hc.length=m)(xs bh:List Value):
  ∀(n i:Nat),ko (Fi n hc) (xs.drop (i*m))->ko (Fi n hc) (bh.drop (i*m))->Eb P (tV e) e m xs bh n i=some (pg (xs.drop (i*m)) (bh.drop (i*m)))
 | 0,i,ao,ba=>by have a7:xs.drop (i*m)=[]:=length_eq_zero_iff.1 ao.len;have bt:bh.drop (i*m)=[]:=length_eq_zero_iff.1 ba.len;rw[a7,bt];rfl
 | n+1,i,ao,ba=>by
  unfold Eb;have ao:ko (hc++Fi n hc) (xs.drop (i*m)):=ao;have ba:ko (hc++Fi n hc) (bh.drop (i*m)):=ba;obtain⟨qg,uf⟩:=ao.app;obtain⟨zh,w0⟩:=ba.app;rw[aD]at qg uf zh w0;have h1:qC P e=some false->m=1:=fun bn=>by grind[QE]
  rw[Lr al qg aD h1,Lr al zh aD h1];obtain⟨v,hv⟩:=Ls hf qg;obtain⟨w,aM⟩:=Ls hf zh;rw[hv,aM];simp only;rw[hg _ _ _ _ _ _ hf qg zh hv aM];rw[drop_drop,<- succ_mul]at uf w0;have bg:=YY hg al hf aD xs bh n (i+1) uf w0;have QG:=ao.len;have QH:=ba.len;rw[length_append]at QG QH;rw[QD m (xs.drop (i*m)) (bh.drop (i*m)) (by omega) (by omega),drop_drop,drop_drop,<- succ_mul];cases aB:pg ((xs.drop (i*m)).take m) ((bh.drop (i*m)).take m)with
  | true=>simp_all
  | false=>rfl
theorem QI:∀(d D:Nat),d<=D->QF P (oE P D) (rW P d)
 | 0,_,_=>fun t hc xs bh x y h=>by cases h
 | d+1,0,h=>by omega
 | d+1,D+1,aO=>fun t hc xs bh x y h ao ba j8 rX=>by
  have bg:=QI d D (by omega);unfold rW at h;unfold oE;split at h;rename_i bf bn;cases h;rw[bf];unfold sG at j8 rX;rw[bn]at j8 rX
  match xs,bh,ao,ba,j8,rX with
  | [.bool a],[.bool b],_,_,j8,rX=>grind[pg,Fh]
  rename_i k bf bn;cases h;rw[bf];unfold sG at j8 rX;rw[bn]at j8 rX
  match xs,bh,ao,ba,j8,rX with
  | [.int dZ a],[.int gd b],ao,ba,j8,rX=>
   cases j8;cases rX;have a7:k=dZ:=ao.1;have bt:k=gd:=ba.1;subst a7;subst bt;have:u1 k k=true:=by cases k<;>rfl
   simp_all[pg,Fh,sq]
  rename_i bf bn;cases h;rw[bf];unfold sG at j8 rX;rw[bn]at j8 rX
  match xs,bh,ao,ba,j8,rX with
  | [.string a],[.string b],_,_,j8,rX=>grind[pg,Fh]
  rename_i bb bf bn;rw[bf];unfold sG at j8 rX;rw[bn]at j8 rX;cases j8;cases rX;split at h;cases h;rename_i ev;simp only;rw[if_neg ev];have:=YX bg xs bh bb.toList 0 hc h ao ba
  simp_all
  grind[sG,eq_of_beq_eq_true,YY]
  cases h
theorem an5{t:TypeId}{c:Bool}{hc:List pS}{xs bh:List Value}(ah:rW P 100 t=some hc)(bn:qC P t=some true)(hg:P.eqGuardType P.depth t=false)(ao:ko hc xs)(ba:ko hc bh):(ar P .eql t c).f (.agg xs.toArray) (.agg bh.toArray)=some (.bool (pg xs bh)):=by
 show(if wm P t c (.agg xs.toArray) (.agg bh.toArray)then(oE P 100 t (.agg xs.toArray) (.agg bh.toArray)).map Value.bool else none)=_;have h1:wm P t c (.agg xs.toArray) (.agg bh.toArray)=true:=by show(!P.eqGuardType P.depth t)=true;grind
 rw[if_pos h1,QI 100 100 (Nat.le_refl _) t hc xs bh _ _ ah ao ba (by simp_all[sG]) (by simp_all[sG])];rfl
theorem YZ{t:TypeId}{c:Bool}{hc:List pS}{xs bh:List Value}(ah:rW P 100 t=some hc)(bn:qC P t=some true)(hg:P.eqGuardType P.depth t=false)(ao:ko hc xs)(ba:ko hc bh):(ar P .neq t c).f (.agg xs.toArray) (.agg bh.toArray)=some (.bool !(pg xs bh)):=by
 show(if wm P t c (.agg xs.toArray) (.agg bh.toArray)then(oE P 100 t (.agg xs.toArray) (.agg bh.toArray)).map (fun r=>Value.bool !r)else none)=_;have h1:wm P t c (.agg xs.toArray) (.agg bh.toArray)=true:=by show(!P.eqGuardType P.depth t)=true;grind
 rw[if_pos h1,QI 100 100 (Nat.le_refl _) t hc xs bh _ _ ah ao ba (by simp_all[sG]) (by simp_all[sG])];rfl
end
end Go.Ab
namespace Go.Ab
open Go
def Fj:IntKind->Nat
 | .u8=>8
 | .u16=>16
 | .u32=>32
 | .u64=>64
 | _=>0
def ur:IntKind->Bool
 | .u8=>true
 | .u16=>true
 | .u32=>true
 | .u64=>true
 | _=>false
def gr(k:IntKind):Nat:=2^Fj k
abbrev bT(k:IntKind)(a:Nat):Value:=.int k (a:Int)
section
variable[eA]{P:Program}{k e6:IntKind}{t:TypeId}{c:Bool}{a b n:Nat}{H:au}
theorem w1(ah:ur k=true):iN k (a:Int)=((a%gr k:Nat):Int):=by cases k<;>first|(cases ah;done)|rfl
theorem CO(ah:ur k=true):o3 k (a:Int)=a%gr k:=by cases k<;>first|(cases ah;done)|rfl
theorem w2(ah:ur k=true)(bn:a<gr k)(ak:b<gr k):(ar P .and t c).f (bT k a) (bT k b)=some (bT k (a&&&b)):=by rw[rS _ _ rfl];show some (Value.int k (iN k ((Nat.land (o3 k a) (o3 k b):Nat):Int)))=_;rw[CO ah,CO ah,mod_eq_of_lt bn,mod_eq_of_lt ak,w1 ah,mod_eq_of_lt (show Nat.land a b<gr k from and_lt_two_pow a ak)];rfl
theorem CP(ah:ur k=true)(bn:a<gr k)(ak:b<gr k):(ar P .or t c).f (bT k a) (bT k b)=some (bT k (a|||b)):=by rw[rS _ _ rfl];show some (Value.int k (iN k ((Nat.lor (o3 k a) (o3 k b):Nat):Int)))=_;rw[CO ah,CO ah,mod_eq_of_lt bn,mod_eq_of_lt ak,w1 ah,mod_eq_of_lt (show Nat.lor a b<gr k from or_lt_two_pow bn ak)];rfl
theorem oc(ah:ur k=true)(bn:a<gr k)(ak:b<gr k):(ar P .xor t c).f (bT k a) (bT k b)=some (bT k (a ^^^ b)):=by rw[rS _ _ rfl];show some (Value.int k (iN k ((Nat.xor (o3 k a) (o3 k b):Nat):Int)))=_;rw[CO ah,CO ah,mod_eq_of_lt bn,mod_eq_of_lt ak,w1 ah,mod_eq_of_lt (show Nat.xor a b<gr k from xor_lt_two_pow bn ak)];rfl
theorem sH(ah:ur k=true):(ar P .add t c).f (bT k a) (bT k b)=some (bT k ((a+b)%gr k)):=by rw[YD,show(a:Int)+(b:Int)=((a+b:Nat):Int) by simp,w1 ah]
theorem QJ(ah:ur k=true):(ar P .mul t c).f (bT k a) (bT k b)=some (bT k ((a*b)%gr k)):=by rw[YF,show(a:Int)*(b:Int)=((a*b:Nat):Int) by simp,w1 ah]
theorem QK(ah:ur k=true)(h:b<=a)(bn:a<gr k):(ar P .sub t c).f (bT k a) (bT k b)=some (bT k (a-b)):=by rw[YE,show(a:Int)-(b:Int)=((a-b:Nat):Int) by omega,w1 ah,mod_eq_of_lt (by omega)]
theorem x8(ak:0<b):(ar P .rem t c).f (bT k a) (bT k b)=some (bT k (a%b)):=by grind[Lm]
theorem QL(ah:ur k=true)(ak:0<b)(bn:a<gr k):(ar P .quo t c).f (bT k a) (bT k b)=some (bT k (a/b)):=by rw[rS _ _ rfl];show(match pD (b:Int) 0 with|true=>none|false=>some (Value.int k (iN k ((a:Int).tdiv b))))=_;rw[sq,decide_eq_false (by omega)];show some (Value.int k (iN k ((a/b:Nat):Int)))=_;rw[w1 ah,mod_eq_of_lt (Nat.lt_of_le_of_lt (div_le_self _ _) bn)]
theorem Fk(ah:ur k=true)(aU:n<=Fj k):(ar P .shl t c).f (bT k a) (bT e6 n)=some (bT k (a*2^n%gr k)):=by
 show BS true k a n=_;have ak:k.bits=Fj k:=by cases k<;>first|(cases ah;done)|rfl
 unfold BS;rw[if_neg (by omega),if_pos rfl,Int.toNat_natCast,ak,Nat.min_eq_left aU,show(a:Int)*((2^n:Nat):Int)=((a*2^n:Nat):Int) by simp,w1 ah]
theorem zi(ah:ur k=true)(aU:n<=Fj k):(ar P .shr t c).f (bT k a) (bT e6 n)=some (bT k (a/2^n)):=by
 show BS false k a n=_;have ak:k.bits=Fj k:=by cases k<;>first|(cases ah;done)|rfl
 unfold BS
 grind
theorem an6{w:Nat}(bn:a<2^w):(2^w-1) ^^^ a=2^w-1-a:=by
 apply eq_of_testBit_eq;intro i;rw[show 2^w-1-a=2^w-(a+1) by omega,testBit_two_pow_sub_succ bn,testBit_xor,testBit_two_pow_sub_one]
 grind[testBit_lt_two_pow,Nat.lt_of_lt_of_le,Nat.pow_le_pow_right]
theorem an7(ah:ur k=true)(bn:a<gr k):hx .xor (bT k a)=some (bT k (gr k-1-a)):=by
 show some (Value.int k (iN k ((Nat.xor (o3 k (if k.signed then-1 else k.max)) (o3 k (a:Int)):Nat):Int)))=_;have hm:o3 k (if k.signed then-1 else k.max)=gr k-1:=by cases k<;>first|(cases ah;done)|rfl
 rw[hm,CO ah,mod_eq_of_lt bn,w1 ah,show Nat.xor (gr k-1) a=(2^Fj k-1) ^^^ a from rfl,an6 bn,mod_eq_of_lt (by grind[gr])];rfl
theorem uu(ah:ur e6=true):iw e6 (bT k a) H=some (bT e6 (a%gr e6),H):=by show some (Value.int e6 (iN e6 (a:Int)),H)=_;rw[w1 ah]
theorem w3(h:a<=9223372036854775807):iw .i64 (bT k a) H=some (int a,H):=an1 (by omega) (by omega)
theorem Y0:(ar P .eql t c).f (bT k a) (bT k b)=some (.bool (decide (a=b))):=by simp_all[e2,Int.ofNat_inj]
end
end Go.Ab
namespace Go.Ab
open Go
abbrev bd(xs:List Int):List Value:=xs.map (Value.int .u8)
def RdB(ae:List (Nat×ax))(v:Value)(xs:List Int):Prop:=
 (v=bu/\xs=[])\/∃p o c,v=aC p o xs.length c/\(c=2\/c=3)/\(xs=[]\/∃(j:Nat) (b:ax),ae[j]?=some (p,b)/\(b.cells.drop o).take xs.length=bd xs)
def gf(v:Value)(xs:List Int)(aq:List Value):Prop:=
 (v=bu/\xs=[]/\aq=[])\/∃p,(v=aC p 0 xs.length 2\/(v=aC p 0 xs.length 3/\aq.length=xs.length))/\aq.take xs.length=bd xs/\xs.length<=aq.length/\aq.all fY=true
section
variable[eA][b0]{P:Program}{H:au}{ae b9:List (Nat×ax)}{v x:Value}{xs bh:List Int}{aq:List Value}{aa:Value->au->Prop}
theorem RdB.nil:RdB ae bu []:=.inl ⟨rfl,rfl⟩
theorem RdB.lk(h:RdB ae v xs):∃a n c,v=.slice a n c:=by rcases h with⟨rfl,_⟩|⟨p,o,c,rfl,_⟩<;>exact⟨_,_,_,rfl⟩
theorem RdB.bO(h:RdB ae v xs):bO v H=some (int xs.length,H):=by rcases h with⟨rfl,rfl⟩|⟨p,o,c,rfl,_⟩<;>rfl
theorem RdB.nC(h:RdB ae v xs):nC v=some xs.length:=by rcases h with⟨rfl,rfl⟩|⟨p,o,c,rfl,_⟩<;>rfl
theorem RdB.app(h:RdB ae v xs):RdB (ae++b9) v xs:=by
 rcases h with h|⟨p,o,c,h1,h2,h3|⟨j,b,h3,aG⟩⟩
 exact .inl h;exact .inr ⟨p,o,c,h1,h2,.inl h3⟩;exact .inr ⟨p,o,c,h1,h2,.inr ⟨j,b,aL h3,aG⟩⟩
theorem RdB.app'(h:RdB b9 v xs):RdB (ae++b9) v xs:=by
 rcases h with h|⟨p,o,c,h1,h2,h3|⟨j,b,h3,aG⟩⟩
 exact .inl h;exact .inr ⟨p,o,c,h1,h2,.inl h3⟩;exact .inr ⟨p,o,c,h1,h2,.inr ⟨ae.length+j,b,az h3,aG⟩⟩
theorem gf.nil:gf bu [] []:=.inl ⟨rfl,rfl,rfl⟩
theorem gf.lY(h:gf v xs aq):RdB (bQ v aq) v xs:=by
 rcases h with⟨rfl,rfl,rfl⟩|⟨p,rfl|⟨rfl,_⟩,h2,h3⟩
 exact .nil;exact .inr ⟨p,0,2,rfl,.inl rfl,.inr ⟨0,⟨aq,true⟩,rfl,by simp_all⟩⟩;exact .inr ⟨p,0,3,rfl,.inr rfl,.inr ⟨0,⟨aq,true⟩,rfl,by simp_all⟩⟩
theorem gf.bO(h:gf v xs aq):bO v H=some (int xs.length,H):=h.lY.bO
theorem an8{b:ax}{o:Nat}(ao:xs≠[])(h:(b.cells.drop o).take xs.length=bd xs):b.cells≠[]:=by
 intro e
 simp_all
theorem an9{b:ax}{o:Nat}(h:(b.cells.drop o).take xs.length=bd xs):xs.length<=b.cells.length-o:=by
 have:=congrArg List.length h
 grind
theorem RdB.pL(hO:aj H ae)(h:RdB ae v xs):tX H 1 xs.length v=some (bd xs):=by
 rcases h with⟨rfl,rfl⟩|⟨p,o,c,rfl,_,rfl|⟨j,b,h3,aG⟩⟩
 rfl;rfl;by_cases ao:xs=[];subst ao;rfl;rw[HH (hO.at j h3 (.inr (an8 ao aG))) (by have:=an9 aG;grind[length_pos_iff]),Nat.mul_one,aG]
theorem RdB.at(h:RdB ae v xs){i:Nat}(an:i<xs.length):∃(p o c j:Nat) (b:ax),v=aC p o xs.length c/\ae[j]?=some (p,b)/\b.cells[o+i]?=some (Value.int .u8 xs[i]):=by
 rcases h with⟨rfl,rfl⟩|⟨p,o,c,rfl,_,rfl|⟨j,b,h3,aG⟩⟩
 simp at an;simp at an;refine⟨p,o,c,j,b,rfl,h3,?_⟩;have:=congrArg (·[i]?) aG
 grind
theorem uv(hO:aj H (ae++bQ v aq))(hv:gf v xs aq)(ao:RdB ae x bh)(aD:xs.length+bh.length<=1000000000)
  (ah:∀ab aQ bE,aj ab (ae++bQ aQ bE)->gf aQ (xs++bh) bE->aa aQ ab):af (gw 1 1 v x H) aa:=by
 unfold gw;simp only[ao.nC,ao.app.pL hO];by_cases ba:bh=[];subst ba;rw[append_nil]at ah;unfold rA;rcases hv with⟨rfl,rfl,rfl⟩|⟨p,rfl|⟨rfl,h1⟩,h2,h3⟩
 exact bW (show some (bu,H)=_ from rfl) (ah _ _ _ hO .nil);exact bW (show some (aC p 0 xs.length 2,H)=_ from rfl) (ah _ _ _ hO (.inr ⟨p,.inl rfl,h2,h3⟩));exact bW (show some (aC p 0 xs.length 3,H)=_ from rfl) (ah _ _ _ hO (.inr ⟨p,.inr ⟨rfl,h1⟩,h2,h3⟩));have CN:0<bh.length:=length_pos_iff.2 ba;have rQ:Nat.beq bh.length 0=false:=by grind[eq_of_beq_eq_true]
 have h1:(bd bh).all eL=true:=by simp[eL]
 have zf:∀p,gf (aC p 0 (xs.length+bh.length) 2) (xs++bh) (bd xs++bd bh):=fun p=>by
  refine .inr ⟨p,.inl (by simp_all),?_,by simp,by simp[fY,uo]⟩
  grind
 unfold rA;rcases hv with⟨rfl,rfl,rfl⟩|⟨p,hv,h2,h3,aG⟩
 simp only[rQ,Bool.false_eq_true,if_false];rw[if_pos (x4 (by omega) (by omega))];have hO:aj H ae:=by simp_all[bQ]
 refine bW (show mB (bd bh) bh.length (2*1) H=some (aC H.next 0 bh.length 2,H.push (bd bh))from rfl) (ah _ _ (bd bh) (hO.push _) ?_)
 simp_all
 have tm:bQ v aq=[(p,⟨aq,true⟩)]:=by rcases hv with rfl|⟨rfl,_⟩<;>rfl
 rw[tm]at hO;have an:(ae++[(p,(⟨aq,true⟩:ax))])[ae.length]?=some (p,⟨aq,true⟩):=by simp
 have oP:=hO.at _ an (.inl rfl);rcases hv with rfl|⟨rfl,hlen⟩
 have x5:=hO.eF an;have he:(ae++[(p,(⟨aq,true⟩:ax))]).eraseIdx ae.length=ae:=by grind
 rw[he]at x5;simp only[rQ,Bool.false_eq_true,if_false];rw[if_pos (x4 (by omega) (by omega))];rw[if_neg (show¬Nat.beq 2 (2*1+1)=true by decide),if_pos (show Nat.beq 2 (2*1)=true by decide)];unfold BW;rw[oP];have e:(au.o2 H p ⟨aq,true⟩&&(Nat.ble (0+xs.length*1) (gi aq)&&kh eL (bd bh)))=true:=by unfold au.o2;rw[hO.dc,hB,kH,h1,mE,mE,decide_eq_true (by omega:0+xs.length*1<=aq.length)];simp
 simp only[e];have bt:iC (ry (qB aq (0+xs.length*1)) 0) (bd bh)=bd xs++bd bh:=by simp_all[jm,n1,ni]
 rw[bt];exact bW (show mB (bd xs++bd bh) (xs.length+bh.length) (2*1) (H.set p none)=some (aC H.next 0 (xs.length+bh.length) 2,(H.set p none).push (bd xs++bd bh))from rfl) (ah _ _ _ (x5.push _) (zf _));simp only[rQ,Bool.false_eq_true,if_false];rw[if_pos (x4 (by omega) (by omega))];rw[if_pos (show Nat.beq 3 (2*1+1)=true by decide)];unfold z1;have pb:aq=bd xs:=by grind
 have ei:(if Nat.beq xs.length 0=true then some []else s0 H p 0 (xs.length*1))=some (bd xs):=by simp_all[Cb,yI,ni,n1,hB]
 rw[ei];simp only[jm];exact bW (show mB (bd xs++bd bh) (xs.length+bh.length) (2*1) H=some (aC H.next 0 (xs.length+bh.length) 2,H.push (bd xs++bd bh))from rfl) (ah _ _ _ (hO.left.push _) (zf _))
theorem AO{q:Nat}{w:Bool}(hO:aj H ((ae++bQ v aq)++[(q,⟨bd bh,w⟩)]))(hv:gf v xs aq)(aD:xs.length+bh.length<=1000000000){n c:Nat}(aU:n=bh.length)(aB:c=2\/c=3)
  (ah:∀ab aQ bE,aj ab (ae++bQ aQ bE)->gf aQ (xs++bh) bE->aa aQ ab):af (gw 1 1 v (aC q 0 n c) H) aa:=by
 have dF:aj H ((ae++[(q,⟨bd bh,w⟩)])++bQ v aq):=hO.fj (by simp_all[List.Perm.append_left]);refine uv dF hv (bh:=bh) (.inr ⟨q,0,c,by rw[aU],aB,.inr ⟨ae.length,⟨bd bh,w⟩,by simp,?_⟩⟩) aD ?_
 simp_all[take_of_length_le]
 grind[aj.sub]
theorem Fl{mG:List Value}(hO:aj H ((ae++bQ v aq)++bQ x mG))(hv:gf v xs aq)(ao:gf x bh mG)(aD:xs.length+bh.length<=1000000000)
  (ah:∀ab aQ bE,aj ab (ae++bQ aQ bE)->gf aQ (xs++bh) bE->aa aQ ab):af (gw 1 1 v x H) aa:=by
 have dF:aj H ((ae++bQ x mG)++bQ v aq):=hO.fj (by simp_all[List.Perm.append_left,perm_append_comm]);refine uv dF hv ao.lY.app' aD ?_
 grind[aj.sub]
theorem RdB.nK{y:Nat×ax}{B:List (Nat×ax)}(h:RdB B v xs):RdB (ae++(y::B)) v xs:=by
 have:=h.app' (ae:=ae++[y])
 simp_all
theorem Fm{n:Int}(aJ:0<=n)(h1:n<18446744073709551616):iw .u64 (int n) H=some (bT .u64 n.toNat,H):=by obtain⟨m,rfl⟩:∃m:Nat,n=m:=⟨n.toNat,by omega⟩;show some (Value.int .u64 (iN .u64 (m:Int)),H)=_;rw[w1 rfl,Int.toNat_natCast,mod_eq_of_lt (show m<gr .u64 from(show m<18446744073709551616 by omega))]
theorem HL{k:IntKind}{n:Int}(aJ:0<=n):Value.int k n=bT k n.toNat:=by grind
theorem zj{p o n:Nat}{b:ax}(hO:aj H ae)(i:Nat)(an:ae[i]?=some (p,b))(bJ:0<n)(aU:o+n<=b.cells.length):mK n 1 (ai p o) none none none H=some (aC p o n 3):=by
 have hg:=hO.at i an (.inr (by grind))
 simp_all[mK,hB,ble_eq_true_of_le,oG,qD,sl,rC]
theorem aoa(xs:List Int):wo (bd xs)=some (xs.map fun n=>UInt8.ofNat n.toNat):=by
 induction xs with
 | nil=>rfl
 | cons x r bg=>simp_all[wo]
def Fo(xs:List Int):Value:=.string ⟨(xs.map fun n=>UInt8.ofNat n.toNat).toArray⟩
theorem RdB.bS(hO:aj H ae)(h:RdB ae v xs):tW v H=some (Fo xs,H):=by
 have he:=h.pL hO;rcases h with⟨rfl,rfl⟩|⟨p,o,c,rfl,_⟩
 rfl;unfold tW;simp only;split;rename_i aJ;have aJ:=eq_of_beq_eq_true aJ;have:xs=[]:=length_eq_zero_iff.1 aJ;subst this;rfl;rename_i aJ;unfold tX at he;simp only[Nat.mul_one]at he;rw[if_neg aJ]at he;rw[he];simp only[aoa];rfl
theorem Lt{t e:TypeId}{c:Bool}{a:Option Addr}{n k:Nat}(ht:P.underlying t=some (.slice e)):(ar P .eql t c).f (.slice a n k) bu=some (.bool a.isNone):=by show(if wm P t c (.slice a n k) bu then(oE P 100 t (.slice a n k) bu).map Value.bool else none)=_;have h1:wm P t c (.slice a n k) bu=true:=rfl;rw[if_pos h1];show(oE P (99+1) t (.slice a n k) bu).map Value.bool=_;unfold oE;rw[ht];cases a<;>rfl
theorem aob{o n c:Nat}{p:Nat}{h:Int}(aJ:0<=h)(h1:h<=n)(aB:c=2\/c=3):∃bV,(bV=2\/bV=3)/\hI 1 (aC p o n c) none (some (int h)) none=some (aC p o h.toNat bV):=by
 obtain⟨m,rfl⟩:∃m:Nat,h=m:=⟨h.toNat,by omega⟩;have ak:oG n (some (int (m:Int)))=some m:=by
  show(match kx 0 (m:Int)with|true=>(match Nat.ble (m:Int).toNat n with|true=>some (m:Int).toNat|false=>none)|false=>none)=_
  simp_all[lf,ble_eq_true_of_le]
 rcases aB with rfl|rfl
 simp_all[hI,qD,sl,rC]
 refine⟨cond (Nat.beq m n) 3 2,by grind,?_⟩
 simp_all[hI,qD,sl,rC]
end
end Go.Ab
namespace Go.Ab
open Go
local instance:h7:=⟨fun _=>none,0⟩
section
variable[eA]{P:Program}{H:au}{ae:List (Nat×ax)}
abbrev jh(l:Nat)(r:hP)(L:b0):b0:=⟨(l,r)::L.l⟩
theorem CQ{L:b0}(h:@aj L H ae):H.dS=0:=@aj.dc L H ae h
theorem Fp{L:b0}(h:@aj L H ae):H.t.sE H.next:=@aj.jZ L H ae h
theorem Lu{L:b0}(h:@aj L H ae):(ae.map (·.1)).Nodup:=@aj.tk L H ae h
theorem Fq{L:b0}(h:@aj L H ae):∀x∈ae,x.1<H.next:=@aj.lt L H ae h
theorem Lv{L:b0}(h:@aj L H ae):∀x∈ae,(x.2.wr=true\/x.2.cells≠[])->H.get x.1=some x.2:=@aj.get L H ae h
theorem AP{L:b0}(h:@aj L H ae):H.ed=L.l:=@aj.ed L H ae h
theorem zk{L:b0}(h:@aj L H ae):∀x∈L.l,x.1<H.next:=@aj.E8 L H ae h
theorem aoc{L:b0}(h:@aj L H ae)(T:List Value)(bw:List Tmp)(c9 body:Code):@aj (jh (Nat.succ H.next) ⟨T,bw,c9,body,.ready⟩ L) (laid T bw c9 body H) ae:=by
 have QM:(H.t.set H.next none).sE (H.next+1):=fun m hm=>by
  by_cases he:m=H.next
  grind[Tr.AK,Fp]
  exact Tr.AJ _ _ _ _ ((Fp h) m (by omega))
 have aod:((H.t.set H.next none).set (Nat.succ H.next) none).sE (H.next+2):=fun m hm=>by
  by_cases he:m=Nat.succ H.next
  simp_all[Tr.AK]
  exact Tr.AJ _ _ _ _ (QM m (by omega))
 have gY:=CQ h;have gZ:=Lu h;refine @aj.mk (jh (Nat.succ H.next) ⟨T,bw,c9,body,.ready⟩ L) (laid T bw c9 body H) ae gY aod gZ (fun x ao=>?_) (fun x ao aM=>?_) ?_ (fun x ao=>?_);have:=(Fq h) x ao;show x.1<H.next+2;omega;have:=(Fq h) x ao;show((H.t.set H.next none).set (Nat.succ H.next) none).get x.1=some x.2;rw[Tr.l9 _ _ _ _ (by omega),Tr.l9 _ _ _ _ (by omega)];exact(Lv h) x ao aM;show(_,_)::H.ed=_;grind[AP];rcases mem_cons.1 ao with rfl|ao
 show H.next+1<H.next+2;omega;have:=(zk h) x ao;show x.1<H.next+2;omega
theorem aoe{L:b0}{l:Nat}{r:hP}(h:@aj (jh l r L) H ae):@aj L ⟨H.t,H.next,H.dS,L.l⟩ ae:=by have gY:=CQ h;have gZ:=Fp h;have f3:=Lu h;have f4:=Fq h;have f5:=Lv h;have qR:=zk h;exact @aj.mk L ⟨H.t,H.next,H.dS,L.l⟩ ae gY gZ f3 f4 f5 rfl (fun x ao=>qR x (mem_cons_of_mem _ ao))
theorem Y1{L cL:b0}(h:@aj L H ae)(aD:∀x∈cL.l,x.1<H.next):@aj cL ⟨H.t,H.next,H.dS,cL.l⟩ ae:=by have gY:=CQ h;have gZ:=Fp h;have f3:=Lu h;have f4:=Fq h;have f5:=Lv h;exact @aj.mk cL ⟨H.t,H.next,H.dS,cL.l⟩ ae gY gZ f3 f4 f5 rfl aD
theorem Y2{L:b0}{l:Nat}{r:hP}{st:wh}(hm:(nA r||nA ⟨r.T,r.bw,r.c9,r.body,st⟩)=false)(h:@aj (jh l r L) H ae):∃cJ,wz l st H=some cJ/\@aj (jh l ⟨r.T,r.bw,r.c9,r.body,st⟩ L) cJ ae:=by
 refine⟨⟨H.t,H.next,H.dS,(jh l ⟨r.T,r.bw,r.c9,r.body,st⟩ L).l⟩,?_,Y1 h fun x ao=>?_⟩;unfold wz;have e:H.ed=(l,r)::L.l:=(AP h);rw[show Nat.ble H.dS l=true by rw[(CQ h)];rfl,e,qN,if_pos rfl];simp only;have:l7 ((l,r)::L.l) l ⟨r.T,r.bw,r.c9,r.body,st⟩=(l,⟨r.T,r.bw,r.c9,r.body,st⟩)::L.l:=by
  show cond (Nat.beq l l) _ _=_
  simp_all
 grind
 rcases mem_cons.1 ao with rfl|ao
 exact(zk h) (l,r) mem_cons_self;exact(zk h) x (mem_cons_of_mem _ ao)
theorem Y3{L:b0}{l:Nat}{T:List Value}{bw:List Tmp}{c9 body:Code}{aa:au->Prop}(h:@aj (jh l ⟨T,bw,c9,body,.ready⟩ L) H ae)(ah:∀cJ,@aj (jh l ⟨T,bw,c9,body,.busy⟩ L) cJ ae->aa cJ):Hv l H aa:=by obtain⟨cJ,h1,h2⟩:=Y2 (st:=.busy) rfl h;refine⟨cJ,?_,ah cJ h2⟩;unfold Ca;have e:H.ed=(l,(⟨T,bw,c9,body,.ready⟩:hP))::L.l:=(AP h);rw[e,qN,if_pos rfl];exact h1
theorem Y4{L:b0}{l:Nat}{r:hP}{e:nz}{aa:Value->au->Prop}(h:@aj (jh l r L) H ae)(ah:∀cJ,@aj (jh l ⟨r.T,r.bw,r.c9,r.body,Ep e⟩ L) cJ ae->aa (.bool (Ah e)) cJ)(hm:nA r=false:=by rfl):E0 l e H aa:=by obtain⟨cJ,h1,h2⟩:=Y2 (st:=Ep e) (by rw[hm];cases e<;>rfl) h;exact⟨cJ,h1,ah cJ h2⟩
theorem Y5{L:b0}{n l:Nat}{bw:List Tmp}{c9 body:Code}{ml args T:List Value}{aa:Value->au->Prop}(h:@aj (jh l ⟨T,bw,c9,body,.ready⟩ L) H ae)(bk:T.length=n)
  (jX:zd (bits n (tj c9 body)) (mP (bits n (tj c9 body)) ml) T) (hlen:args.length=bw.length) (vz:bw.all (· < n)=true) (hv:K4 P n bw c9 body ml args l H aa):y9 P (.round l args H) aa:=by
 refine anp ?_ bk jX hlen (fun p bJ=>?_) hv;have e:H.ed=(l,(⟨T,bw,c9,body,.ready⟩:hP))::L.l:=(AP h)
 simp_all[qN]
 simp_all
theorem Y6:∀(l:List (Nat×hP)) (i:Nat),(∀x∈l,x.1<i)->eZ l i=none
 | [],_,_=>rfl
 | x::r,i,h=>by have:=h x mem_cons_self;rw[qN,if_neg (by omega)];exact Y6 r i fun y ba=>h y (mem_cons_of_mem _ ba)
def Y7:wh->nz
 | .over e=>e
 | _=>.normal
theorem Y8{L:b0}{n:Nat}{bw:List Tmp}{c9 body:Code}{ml args:List Value}{g:Value}{f:FuncId}{N:au->Prop}{bC:Nat->au->Prop}{ch:au->Prop}(h:@aj L H ae)(hg:vb g [wx (Nat.succ H.next)]=some (.fn f args))
  (aB:∀T,T.length=n->zd (bits n (tj c9 body)) (mP (bits n (tj c9 body)) ml) T->∀gq,@aj (jh (Nat.succ H.next) ⟨T,bw,c9,body,.ready⟩ L) gq ae->ay P f args gq fun _ bB=>∃(st:wh) (h9:List (Nat×ax)),(st≠.busy/\st≠.over .normal)/\@aj (jh (Nat.succ H.next) ⟨T,bw,c9,body,st⟩ L) bB h9/\∀cJ,@aj L cJ h9->Yf N bC ch (Y7 st) cJ):Hu P n bw c9 body ml g H N bC ch:=by
 intro T bk jX;obtain⟨m,c6,v,bB,U,st,h9,ev,bI,ah⟩:=aB T bk jX _ (aoc h T bw c9 body);refine⟨m,⟨Y7 st,T,⟨bB.t,bB.next,bB.dS,L.l⟩⟩,?_,rfl,ah _ (aoe bI)⟩;unfold wy;rw[hg];simp only;rw[U];simp only;unfold OC;have e:bB.ed=(Nat.succ H.next,(⟨T,bw,c9,body,st⟩:hP))::L.l:=(AP bI);have eU:eZ L.l (Nat.succ H.next)=none:=Y6 _ _ fun x ao=>by have:=(zk h) x ao;omega
 rw[e];simp only;rw[beq_refl,show Nat.ble bB.dS (Nat.succ H.next)=true by rw[(CQ bI)];rfl];simp only[Bool.and_self,eU];cases st with
 | ready=>rfl
 | busy=>simp_all
 | over aof=>
  cases aof with
  | normal=>simp_all
  | ret=>rfl
  | exit i=>rfl
theorem Y9{l:Nat}{args:List Value}{aa:Value->au->Prop}(h:y9 P (.round l args H) aa):za P (vb (wx l) args) H aa:=h
section
variable{k:IntKind}{t:TypeId}{c:Bool}{a b:Int}{p o n size:Nat}{i:Int}{q:Prop}[Decidable q]{x y:Value}{A B:Prop}
theorem Za(h1:-9223372036854775808<=a+b:=by omega)(h2:a+b<=9223372036854775807:=by omega):(ar P .add t c).f (.int .i64 a) (.int .i64 b)=some (.int .i64 (a+b)):=jg h1 h2
theorem aog(h1:-9223372036854775808<=a-b:=by omega)(h2:a-b<=9223372036854775807:=by omega):(ar P .sub t c).f (.int .i64 a) (.int .i64 b)=some (.int .i64 (a-b)):=ob h1 h2
theorem aoh{c:Nat}(aJ:0<=i:=by omega)(h1:i<n:=by omega):hz size (aC p o n c) (.int k i)=some (ai p (o+i.toNat*size)):=jD aJ h1
theorem aoi(aJ:0<=i:=by omega)(h1:i<n:=by omega):fa n size (ai p o) (.int k i)=some (ai p (o+i.toNat*size)):=fX aJ h1
theorem aoj(h:q:=by first|assumption|omega):aI (.bool (decide q)) x y=some x:=gA h
theorem aok(h:¬q:=by first|assumption|omega):aI (.bool (decide q)) x y=some y:=gP h
theorem vD(hA:A)(h:q:=by first|assumption|omega):aE (.bool (decide q)) A B:=oa h hA
theorem w4(b6:B)(h:¬q:=by first|assumption|omega):aE (.bool (decide q)) A B:=sF h b6
end
theorem cB[b0]{L:List (Nat×ax)}{p o:Nat}{b:ax}{v:Value}{aa:Value->au->Prop}(h:aj H (ae++L))(k:Nat)(an:L[k]?=some (p,b))(hv:b.cells[o]?=some v)(ah:aa v H):af (aw (ai p o) H) aa:=aY h (ae.length+k) (az an) hv ah
section
variable{q:Prop}[Decidable q]{A B:Prop}
theorem aV{p q o:Nat}{aa:Value->Prop}(h:aa (ai p (q+o))):ad (pG (ai p q)) fun b=>ad (bG o b) aa:=⟨_,rfl,_,rfl,h⟩
theorem bH{r:Option Value}{v:Value}{aa:Value->Prop}(ah:aa v)(h:r=some v:=by first|exact Za|exact aog|exact YB|exact b7|exact e2|exact ij|exact fr|exact kS|exact HE|exact um|exact ix|exact j9|exact km|exact aoj|exact aok|exact aoh|exact aoi):ad r aa:=⟨v,h,ah⟩
theorem tq{r:R}{v:Value}{ab:au}{aa:Value->au->Prop}(ah:aa v ab)(h:r=some (v,ab):=by first|exact ze|exact tl|exact x3):af r aa:=⟨v,ab,h,ah⟩
theorem kA{b:Bool}(hA:A)(h:b=true:=by rfl):aE (.bool b) A B:=eT h hA
theorem x9{b:Bool}(b6:B)(h:b=false:=by rfl):aE (.bool b) A B:=dP h b6
theorem CR{b:Bool}(hA:A)(h:b=true:=by rfl):cond b A B:=k6 h hA
theorem ya{b:Bool}(b6:B)(h:b=false:=by rfl):cond b A B:=anH h b6
end
end
end Go.Ab
namespace Go.Ab
open Go
local instance:h7:=⟨fun _=>none,0⟩
section
variable[eA]{P:Program}{H:au}{ae:List (Nat×ax)}{aa:Value->au->Prop}
theorem aol{L:b0}(h:@aj L H ae):@aj (jh H.next (ki []) L) (s4 H) ae:=by
 have QM:(H.t.set H.next none).sE (H.next+1):=fun m hm=>by
  by_cases he:m=H.next
  grind[Tr.AK,Fp]
  exact Tr.AJ _ _ _ _ ((Fp h) m (by omega))
 have gY:=CQ h;have gZ:=Lu h;refine @aj.mk (jh H.next (ki []) L) (s4 H) ae gY QM gZ (fun x ao=>?_) (fun x ao aM=>?_) ?_ (fun x ao=>?_);have:=(Fq h) x ao;show x.1<H.next+1;omega;have:=(Fq h) x ao;show(H.t.set H.next none).get x.1=some x.2;rw[Tr.l9 _ _ _ _ (by omega)];exact(Lv h) x ao aM;show(_,_)::H.ed=_;grind[AP];rcases mem_cons.1 ao with rfl|ao
 show H.next<H.next+1;omega;have:=(zk h) x ao;show x.1<H.next+1;omega
abbrev w5(id:Nat):Value:=.map (some id)
theorem aom{L:b0}(h:@aj L H ae)(ah:∀id ab,(∀x∈L.l,x.1<id)->@aj (jh id (ki []) L) ab ae->aa (w5 id) ab):Qg H aa:=ah _ _ (zk h) (aol h)
theorem Zb{L:b0}(h:@aj L H ae){id:Nat}{T:List Value}(aD:eZ L.l id=some (ki T)):Ek (w5 id) H=some T:=by show(match eZ H.ed id with|some r=>(match nA r with|true=>some r.T|false=>none)|none=>none)=_;rw[AP h,aD];rfl
theorem Lw{L:b0}(h:@aj L H ae){id:Nat}{T:List Value}{t:TypeId}{ok bS:Bool}{e:TypeId}{key z:Value}{x:Option Value}(aD:eZ L.l id=some (ki T))(hm:B2 P t=some (bS,e))(dU:iL P e=some z)(hf:xE bS key T=some x)
  (ah:aa (El ok (x.getD z) x.isSome) H):af (xF P t ok (w5 id) key H) aa:=by
 refine⟨El ok (x.getD z) x.isSome,H,?_,ah⟩;unfold xF;simp only[hm,dU,Zb h aD,hf]
 grind
theorem aon{L:b0}{id:Nat}{T:List Value}(h:@aj (jh id (ki T) L) H ae){t:TypeId}{bS:Bool}{e:TypeId}{key v:Value}(hm:B2 P t=some (bS,e))(hf:xE bS key T=some none)
  (ah:∀ab,@aj (jh id (ki (T++[key,v])) L) ab ae->aa undef ab):af (u9 P t (w5 id) key v H) aa:=by
 have aD:eZ (jh id (ki T) L).l id=some (ki T):=by show eZ ((id,ki T)::L.l) id=_;simp_all[qN]
 refine⟨undef,⟨H.t,H.next,H.dS,(jh id (ki (T++[key,v])) L).l⟩,?_,ah _ (Y1 h fun x ao=>?_)⟩;unfold u9;simp only[hm,Zb h aD,hf];rw[show Nat.ble H.dS id=true by rw[CQ h];rfl];simp only;have e:H.ed=(id,ki T)::L.l:=AP h;rw[e];have:l7 ((id,ki T)::L.l) id (ki (iC T [key,v]))=(id,ki (T++[key,v]))::L.l:=by
  show cond (Nat.beq id id) _ _=_
  simp_all[jm]
 grind
 rcases mem_cons.1 ao with rfl|ao
 exact(zk h) (id,ki T) mem_cons_self;exact(zk h) x (mem_cons_of_mem _ ao)
end
end Go.Ab
namespace Go.Ab
abbrev VH:Type:=Value->au->Prop
abbrev LN:Type:=List Value->au->Prop
abbrev LX:Type:=Nat->List Value->au->Prop
def LpI[eA](P:Program)(C:Nat)(p:Code)(h:Nat)(F:List Value->au->LN->LX->LN->Prop):Prop:=∀(I:LX) (bC:LX) (ch:LN),(∀k l H,I k l H->F l H (fun l H=>∃e6,e6<k/\I e6 l H) bC ch)->∀k l H,I k l H->eJ P true C p h l H bC ch
theorem LpI.mk[eA]{P:Program}{C:Nat}{p:Code}{h:Nat}{F:List Value->au->LN->LX->LN->Prop}(hf:eO p (eO p 0 h) h=eO p 0 h:=by kernel_rfl)(he:∀l H N bC ch,qS P true C p (eO p 0 h) h (mP (bits C (eO p 0 h)) l) H (Ye C p h N bC ch)=F l H N bC ch:=by intros;kernel_rfl):LpI P C p h F:=
 fun I bC ch al k l H jf=>anr hf I (fun k l H h=>(he l H _ bC ch).mpr (al k l H h)) k l H jf
end Go.Ab
namespace Go.Ab
abbrev aH(x:Value)(k:Nat)(aa:Value->Prop):Prop:=ad (pG x) fun b=>ad (bG k b) aa
abbrev LF:Type:=List Value->au->LN->LX->LN->Prop
noncomputable instance:CoeFun (List Value) fun _=>Nat->Value:=⟨cf⟩
instance:CoeFun Om fun _=>List (Nat×Value)->Option Value:=⟨Om.f⟩
instance:CoeFun Gz fun _=>Value->Value->Option Value:=⟨Gz.f⟩
instance:CoeFun Oq fun _=>List (Nat×Value)->au->R:=⟨Oq.f⟩
instance:CoeFun BT fun _=>Value->au->R:=⟨BT.f⟩
instance:CoeFun BX fun _=>List Value->au->R:=⟨BX.f⟩
instance:CoeFun Ot fun _=>Value->Value->au->R:=⟨Ot.f⟩
abbrev V0:Type:=au->VH->Prop
abbrev W0[eA](P:Program)(f:Nat)(F:V0):Prop:=∀ {H aa},F H aa->ay P f [] H aa
theorem Wm0[eA]{P:Program}{f:Nat}{F:V0}(h:∀H aa,eA.lG f [] H=none/\AG P f [] H aa=F H aa:=by intros;exact⟨rfl,by kernel_rfl⟩)(ak:eA.pd f=none:=by rfl):W0 P f F:=fun {H aa} h1=>E7 (h H aa).1 (Eq.mpr (h H aa).2 h1) ak
abbrev V1:Type:=Value->au->VH->Prop
abbrev W1[eA](P:Program)(f:Nat)(F:V1):Prop:=∀ {a H aa},F a H aa->ay P f [a] H aa
theorem Wm1[eA]{P:Program}{f:Nat}{F:V1}(h:∀a H aa,eA.lG f [a] H=none/\AG P f [a] H aa=F a H aa:=by intros;exact⟨rfl,by kernel_rfl⟩)(ak:eA.pd f=none:=by rfl):W1 P f F:=fun {a H aa} h1=>E7 (h a H aa).1 (Eq.mpr (h a H aa).2 h1) ak
abbrev V2:Type:=Value->Value->au->VH->Prop
abbrev W2[eA](P:Program)(f:Nat)(F:V2):Prop:=∀ {a b H aa},F a b H aa->ay P f [a,b] H aa
theorem Wm2[eA]{P:Program}{f:Nat}{F:V2}(h:∀a b H aa,eA.lG f [a,b] H=none/\AG P f [a,b] H aa=F a b H aa:=by intros;exact⟨rfl,by kernel_rfl⟩)(ak:eA.pd f=none:=by rfl):W2 P f F:=fun {a b H aa} h1=>E7 (h a b H aa).1 (Eq.mpr (h a b H aa).2 h1) ak
abbrev V3:Type:=Value->Value->Value->au->VH->Prop
abbrev W3[eA](P:Program)(f:Nat)(F:V3):Prop:=∀ {a b c H aa},F a b c H aa->ay P f [a,b,c] H aa
theorem Wm3[eA]{P:Program}{f:Nat}{F:V3}(h:∀a b c H aa,eA.lG f [a,b,c] H=none/\AG P f [a,b,c] H aa=F a b c H aa:=by intros;exact⟨rfl,by kernel_rfl⟩)(ak:eA.pd f=none:=by rfl):W3 P f F:=fun {a b c H aa} h1=>E7 (h a b c H aa).1 (Eq.mpr (h a b c H aa).2 h1) ak
abbrev V4:Type:=Value->Value->Value->Value->au->VH->Prop
abbrev W4[eA](P:Program)(f:Nat)(F:V4):Prop:=∀ {a b c d H aa},F a b c d H aa->ay P f [a,b,c,d] H aa
theorem Wm4[eA]{P:Program}{f:Nat}{F:V4}(h:∀a b c d H aa,eA.lG f [a,b,c,d] H=none/\AG P f [a,b,c,d] H aa=F a b c d H aa:=by intros;exact⟨rfl,by kernel_rfl⟩)(ak:eA.pd f=none:=by rfl):W4 P f F:=fun {a b c d H aa} h1=>E7 (h a b c d H aa).1 (Eq.mpr (h a b c d H aa).2 h1) ak
abbrev V5:Type:=Value->Value->Value->Value->Value->au->VH->Prop
abbrev W5[eA](P:Program)(f:Nat)(F:V5):Prop:=∀ {a b c d e H aa},F a b c d e H aa->ay P f [a,b,c,d,e] H aa
theorem Wm5[eA]{P:Program}{f:Nat}{F:V5}(h:∀a b c d e H aa,eA.lG f [a,b,c,d,e] H=none/\AG P f [a,b,c,d,e] H aa=F a b c d e H aa:=by intros;exact⟨rfl,by kernel_rfl⟩)(ak:eA.pd f=none:=by rfl):W5 P f F:=fun {a b c d e H aa} h1=>E7 (h a b c d e H aa).1 (Eq.mpr (h a b c d e H aa).2 h1) ak
end Go.Ab
