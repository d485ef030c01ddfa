/- texts of the proof, one behind the other -/
import Derived.Deep.Slices
import Derived.Carry
import Derived.Test.YtlkkkfmjfpeooaaGreatDoorAbB
set_option linter.unusedSimpArgs false
set_option linter.unusedSectionVars false
namespace Go.Ab
open Go
local instance:Base:=⟨fun _=>none,0⟩
set_option linter.unusedVariables false
section
variable{P:Program}{s1 s2:zGf}
abbrev Le(s1 s2:zGf):Prop:=∀ t o,s1 t=some o→s2 t=some o
theorem zLq(h:Le s1 s2){x:Option Tgt}{H:Heap}{r:Value × Heap}(hr:zcf s1 x H=some r):zcf s2 x H=some r:=by
 obtain⟨v,H'⟩:=r
 obtain⟨t,ex,rfl,h1⟩:=zXe hr
 unfold zcf
 simp only[h _ _ h1]
theorem zro(h:Le s1 s2){op:Op}{T:List Value}{H:Heap}{r:Value × Heap}(hr:(zCc P op).f s1 T H=some r):(zCc P op).f s2 T H=some r:=by
 unfold zCc at hr ⊢
 split
 ·rename_i hok
  rw[hok] at hr
  simp only at hr
  unfold zvl at hr ⊢
  split
  ·rename_i c
   simp only at hr
   split
   ·rename_i b hb; rw[hb] at hr; exact hr
   ·rename_i f hf; rw[hf] at hr; exact zLq h hr
   ·rename_i ro name hf; rw[hf] at hr; exact zLq h hr
  ·rename_i hne
   split at hr
   ·exact absurd rfl (hne _)
   ·exact hr
 ·rename_i hok; rw[hok] at hr; cases hr
theorem zVr(h:Le s1 s2)(all:List Oper):∀ (l:List Oper) (T:List Value) (H:Heap) (o:Out),zqi P s1 all l T H=some o→zqi P s2 all l T H=some o
 | [],T,H,o,hr=>hr
 | x::l,T,H,o,hr=>by
  have hr:zVe P s1 x ((zLa all x.guard).f T) T H (zqi P s1 all l)=some o:=hr
  show zVe P s2 x ((zLa all x.guard).f T) T H (zqi P s2 all l)=some o
  unfold zVe at hr ⊢
  split
  ·rename_i hw
   rw[hw] at hr
   simp only at hr
   split at hr
   ·rename_i v H1 hs
    rw[zro h hs]
    exact zVr h all l _ _ _ hr
   ·cases hr
  ·rename_i hw; rw[hw] at hr; exact zVr h all l _ _ _ hr
theorem zCw(h:Le s1 s2){x:Oper}{p:Plan}{T:List Value}{H:Heap}{r:Value × Heap}(hr:zBm P s1 x p T H=some r):zBm P s2 x p T H=some r:=by
 unfold zBm at hr ⊢
 split at hr
 ·cases h1:(zCc P x.op).f s1 T (bare H) with
  | none=>rw[h1] at hr; cases hr
  | some y=>rw[h1] at hr; rw[zro h h1]; exact hr
 ·exact zro h hr
theorem zWr(h:Le s1 s2)(all:List Oper):∀ (l:List (Oper × Plan)) (T:List Value) (H:Heap) (rs:List Rec) (o:Out),zWs P s1 all l T H rs=some o→zWs P s2 all l T H rs=some o
 | [],T,H,rs,o,hr=>hr
 | (x,p)::l,T,H,rs,o,hr=>by
  have hr:zPu P s1 x p ((zLa all x.guard).f T) T H rs (zWs P s1 all l)=some o:=hr
  show zPu P s2 x p ((zLa all x.guard).f T) T H rs (zWs P s2 all l)=some o
  unfold zPu at hr ⊢
  split
  ·rename_i hw
   rw[hw] at hr
   simp only at hr
   split at hr
   ·rename_i v H1 hs
    have:zBm P s2 x p T H=some (v,H1):=zCw h hs
    rw[this]
    simp only
    split at hr
    ·exact zWr h all l _ _ _ _ hr
    ·cases hr
   ·cases hr
  ·rename_i hw; rw[hw] at hr; exact zWr h all l _ _ _ _ hr
theorem zxC(h:Le s1 s2){all:List Oper}{T:List Value}{H:Heap}{o:Out}(hr:zdh P s1 all T H=some o):zdh P s2 all T H=some o:=by
 unfold zdh at hr ⊢
 split at hr
 ·exact zWr h _ _ _ _ _ _ hr
 ·cases hr
theorem zCz(h:Le s1 s2){g:Value}{ps:List Tmp}{asg body:Code}{T:List Value}{H:Heap}{o:Out}(hr:zXi s1 g ps asg body T H=some o):zXi s2 g ps asg body T H=some o:=by
 unfold zXi at hr ⊢
 split at hr
 ·rename_i t ht
  split at hr
  ·rename_i f args
   split at hr
   ·rename_i ex T1 H1 hm
    rw[h _ _ hm]
    exact hr
   ·cases hr
  ·cases hr
 ·cases hr
theorem zPe(h:Le s1 s2)(top:Bool):∀ (c:Code) (T:List Value) (H:Heap) (o:Out),(zAa P top c).f s1 T H=some o→(zAa P top c).f s2 T H=some o:=by
 intro c
 induction c with
 | skip=>intro T H o hr; exact hr
 | region id ops d=>
  intro T H o hr
  cases d with
  | true=>exact zxC h (all:=ops.toList) hr
  | false=>exact zVr h _ _ _ _ _ hr
 | seq x y ix iy=>
  intro T H o hr
  have hr:zdf ((zAa P top x).f s1 T H) (fun T H=>(zAa P top y).f s1 T H)=some o:=hr
  show zdf ((zAa P top x).f s2 T H) (fun T H=>(zAa P top y).f s2 T H)=some o
  obtain⟨o1,h1,h2⟩:=zBb hr
  rw[ix _ _ _ h1]
  obtain⟨e,T1,H1⟩:=o1
  cases e with
  | normal=>
   rcases h2 with⟨_,h2⟩|⟨h2,_⟩
   ·exact iy _ _ _ h2
   ·exact absurd rfl h2
  | exit id=>rcases h2 with⟨h2,_⟩|⟨_,rfl⟩ <;> first|cases h2|rfl
  | ret=>rcases h2 with⟨h2,_⟩|⟨_,rfl⟩ <;> first|cases h2|rfl
 | cond c x y ix iy=>
  intro T H o hr
  have hr:ifA s1 ((evC c).g T) (zAa P top x) (zAa P top y) T H=some o:=hr
  show ifA s2 ((evC c).g T) (zAa P top x) (zAa P top y) T H=some o
  unfold ifA at hr ⊢
  split at hr
  ·split at hr
   ·exact ix _ _ _ hr
   ·exact iy _ _ _ hr
  ·cases hr
 | block id x ix=>
  intro T H o hr
  have hr:zVi id ((zAa P top x).f s1 T H)=some o:=hr
  show zVi id ((zAa P top x).f s2 T H)=some o
  obtain⟨o1,h1,_⟩:=zOk hr
  rw[ix _ _ _ h1]; rw[h1] at hr; exact hr
 | loop x _=>intro T H o hr; exact h (.loop top x T H) o hr
 | rangeFunc g ps asg body _ _=>
  intro T H o hr
  cases top with
  | false=>cases hr
  | true=>exact zCz h (g:=(evT g).g T) (ps:=ps.toList) (asg:=asg) (body:=body) hr
 | exit id=>intro T H o hr; exact hr
 | label l=>intro T H o hr; exact hr
 | ret=>intro T H o hr; exact hr
 | _=>intros; rename_i hr; cases hr
theorem zyC{o1 o2:Option Out}{k1 k2:List Value→Heap→Option Out}{o:Out}(h1:∀ o,o1=some o→o2=some o)(h2:∀ T H o,k1 T H=some o→k2 T H=some o)(hr:zRy o1 k1=some o):zRy o2 k2=some o:=by
 obtain⟨x,g1,g2,g3⟩:=zKq hr
 rw[h1 _ g1]
 obtain⟨e,T,H⟩:=x
 cases g2
 exact h2 _ _ _ g3
theorem zlv(h:Le s1 s2):Le (step P s1) (step P s2):=by
 intro t o hr
 cases t with
 | loop top c T H=>
  have hr:zdf ((zAa P top c).f s1 T H) (fun T H=>s1 (.loop top c T H))=some o:=hr
  show zdf ((zAa P top c).f s2 T H) (fun T H=>s2 (.loop top c T H))=some o
  obtain⟨o1,h1,h2⟩:=zBb hr
  rw[zPe h top _ _ _ _ h1]
  obtain⟨e,T1,H1⟩:=o1
  cases e with
  | normal=>
   rcases h2 with⟨_,h2⟩|⟨h2,_⟩
   ·exact h _ _ h2
   ·exact absurd rfl h2
  | exit id=>rcases h2 with⟨h2,_⟩|⟨_,rfl⟩ <;> first|cases h2|rfl
  | ret=>rcases h2 with⟨h2,_⟩|⟨_,rfl⟩ <;> first|cases h2|rfl
 | call f args H=>
  have hr:(fnC P f).f s1 args H=some o:=hr
  show (fnC P f).f s2 args H=some o
  unfold fnC at hr ⊢
  split at hr
  ·rename_i fn hf
   split at hr
   ·rename_i c hc
    simp only[]
    simp only at hr
    unfold zSy at hr ⊢
    split at hr
    ·rename_i e T1 H1 h1
     rw[zPe h true _ _ _ _ h1]
     exact hr
    ·cases hr
   ·cases hr
  ·cases hr
 | round l args H=>
  have hr:ztk P s1 l args H=some o:=hr
  show ztk P s2 l args H=some o
  unfold ztk at hr ⊢
  split at hr
  ·rename_i r hl
   split at hr
   ·rename_i hn
    refine zyC (fun _=>zPe h false _ _ _ _) (fun T1 H1 o hk=>?_) hr
    split at hk
    ·rename_i H2 hb
     unfold zOG at hk ⊢
     split at hk
     ·rename_i e T3 H3 h3
      simp only[zPe h false _ _ _ _ h3]
      exact hk
     ·cases hk
    ·cases hk
   ·cases hr
  ·cases hr
theorem zVG{f:FuncId}{c:Code}{args:List Value}{H:Heap}{o:Out}(h:Le s1 s2)(hr:fnW P f c s1 args H=some o):fnW P f c s2 args H=some o:=by
 unfold fnW at hr ⊢
 split at hr
 ·rename_i fn _
  cases hle:Nat.ble (zce args) (fn.params.size+fn.nfree) with
  | false=>rw[hle] at hr; cases hr
  | true=>
  rw[hle] at hr
  show zSy P fn.results.toList _=some o
  have hr:zSy P fn.results.toList _=some o:=hr
  unfold zSy at hr ⊢
  split at hr
  ·rename_i hc
   rw[zPe h true _ _ _ _ hc]
   exact hr
  ·cases hr
 ·cases hr
theorem zzC[Orc](h:Le s1 s2):Le (zMx P s1) (zMx P s2):=by
 intro t o hr
 cases t with
 | loop top c T H=>exact zlv h (.loop top c T H) o hr
 | round l args H=>exact zlv h (.round l args H) o hr
 | call f args H=>
  have hr:(match Orc.tab f args H with|some v=>some ⟨.ret,[v],H⟩|none=>match Orc.bod f with|some c=>fnW P f c s1 args H|none=>step P s1 (.call f args H))=some o:=hr
  show (match Orc.tab f args H with|some v=>some ⟨.ret,[v],H⟩|none=>match Orc.bod f with|some c=>fnW P f c s2 args H|none=>step P s2 (.call f args H))=some o
  split at hr
  ·exact hr
  ·split at hr
   ·exact zVG h hr
   ·exact zlv h (.call f args H) o hr
theorem zAC[Orc](n:Nat):Le (zpc P n) (zpc P (n+1)):=by
 induction n with
 | zero=>intro t o h; cases h
 | succ n ih=>exact zzC ih
theorem zxk[Orc]{n m:Nat}(h:n≤m):Le (zpc P n) (zpc P m):=by
 induction h with
 | refl=>intro t o h; exact h
 | step _ ih=>intro t o h; exact zAC _ _ _ (ih t o h)
end
end Go.Ab
namespace Go.Ab
open Go
set_option linter.unusedVariables false
set_option linter.unusedSectionVars false
noncomputable section
abbrev Env:=Nat→Value
def put(ρ:Env)(d:Option Tmp)(v:Value):Env:=match d with
 | some d=>fun i=>cond (Nat.beq i d) v (ρ i)
 | none=>ρ
def ev(x:Operand)(ρ:Env):Value:=match x with
 | .tmp t=>ρ t
 | .const v=>v
 | .global g=>.pointer (some ⟨g,0,none⟩)
 | .func f=>.func (.func f) #[] #[]
def zDw(l:List Operand)(ρ:Env):List Value:=List.rec (motive:=fun _=>List Value) [] (fun o _ ih=>ev o ρ::ih) l
def zso(l:List (Nat × Operand))(ρ:Env):List (Nat × Value):=List.rec (motive:=fun _=>List (Nat × Value)) [] (fun p _ ih=>(p.1,ev p.2 ρ)::ih) l
def zyI(o:Option Operand)(ρ:Env):Option Value:=match o with
 | none=>none
 | some o=>some (ev o ρ)
def zHu(ρ:Env)(l:List Nat):List Value:=List.rec (motive:=fun _=>List Value) [] (fun i _ ih=>ρ i::ih) l
def zIm(l:List Value)(keys:List Nat):Nat→Nat→Value:=
 List.rec (motive:=fun _=>Nat→Nat→Value) (fun _ _=>undef) (fun k _ ih p i=>cond (Nat.beq i k) (nth l p) (ih (Nat.succ p) i)) keys
def zgf(keys:List Nat)(l:List Value):Env:=fun i=>zIm l keys 0 i
def rdO(x:Operand):Nat:=match x with|.tmp t=>Nat.shiftLeft 1 t|_=>0
def rdL(l:List Operand):Nat:=List.rec (motive:=fun _=>Nat) 0 (fun x _ ih=>Nat.lor (rdO x) ih) l
def clr(m d:Nat):Nat:=cond (zJf m d) (Nat.xor m (Nat.shiftLeft 1 d)) m
def zzI(m:Nat)(d:Option Tmp):Nat:=match d with|some d=>clr m d|none=>m
def zmv(all:List Oper)(g:Option (Nat × Bool)):Option (Option Nat × Bool):=match g with
 | none=>none
 | some (j,want)=>some ((atN all j).bind (·.dst),want)
def rdG(all:List Oper)(g:Option (Nat × Bool)):Nat:=match zmv all g with
 | some (some d,_)=>Nat.shiftLeft 1 d
 | _=>0
def zJm(all l:List Oper)(N:Nat):Nat:=List.rec (motive:=fun _=>Nat) N (fun o _ ih=>Nat.lor (zzI ih o.dst) (Nat.lor (rdL o.op.operands.toList) (rdG all o.guard))) l
def live(c:Code):Nat→Nat→Nat:=
 Code.rec (motive:=fun _=>Nat→Nat→Nat)
  (fun N _=>N)
  (fun _ ops _ N _=>zJm ops.toList ops.toList N)
  (fun _ _ a b N X=>a (b N X) X)
  (fun c _ _ a b N X=>Nat.lor (rdO c) (Nat.lor (a N X) (b N X)))
  (fun _ _ a N X=>a N (Nat.lor N X))
  (fun _ a _ X=>a 0 X)
  (fun g _ _ _ a b N X=>Nat.lor (rdO g) (Nat.lor (Nat.lor N X) (a (b 0 0) 0)))
  (fun _ _ X=>X)
  (fun _ _ _ _=>0)
  (fun _ N _=>N)
  (fun _ _ _=>0)
  (fun _ X=>X)
  (fun _ _ _=>0) c
def zEw(m n:Nat):List Nat:=Nat.rec (motive:=fun _=>List Nat→List Nat) (fun acc=>acc) (fun k ih acc=>ih (cond (zJf m k) (k::acc) acc)) n []
def bits(n m:Nat):List Nat:=zEw m n
def zZE(id:Nat)(c:Code):Nat:=
 Code.rec (motive:=fun _=>Nat) 0 (fun _ _ _=>0) (fun _ _ a b=>a+b) (fun _ _ _ a b=>a+b) (fun _ _ a=>a) (fun _ a=>a) (fun _ _ _ _ _ _=>0) (fun i=>cond (Nat.beq i id) 1 0) (fun _ _=>0) (fun _=>0) (fun _=>0) 0 (fun _=>0) c
def zBC(l:List Oper):Bool:=not (zRi (fun o=>match o.guard with|none=>true|some _=>false) l)
def wgt(c:Code):Nat:=
 Code.rec (motive:=fun _=>Nat) 0 (fun _ ops _=>zce ops.toList) (fun _ _ a b=>a+b) (fun _ _ _ a b=>a+b+4) (fun _ _ a=>a) (fun _ _=>9) (fun _ _ _ _ _ _=>9) (fun _=>0) (fun _ _=>0) (fun _=>0) (fun _=>0) 0 (fun _=>0) c
def ends(c:Code):Nat:=
 Code.rec (motive:=fun _=>Nat) 1 (fun _ ops _=>cond (zBC ops.toList) 2 1) (fun _ b ea eb=>cond (Nat.ble 2 ea && Nat.ble 6 (wgt b)) eb (ea * eb)) (fun _ _ _ a b=>a+b) (fun id b a=>a+zZE id b) (fun _ _=>0) (fun _ _ _ _ _ _=>1) (fun _=>0) (fun _ _=>0) (fun _=>1) (fun _=>0) 0 (fun _=>0) c
def zWG(a b:Code):Bool:=Nat.ble 2 (ends a) && Nat.ble 6 (wgt b)
def opW(r:R)(K:Value→Heap→Prop):Prop:=∃ v H',r=some (v,H')∧K v H'
def opP(r:Option Value)(K:Value→Prop):Prop:=∃ v,r=some v∧K v
def wIf(v:Value)(A B:Prop):Prop:=(v=.bool true→A)∧(v=.bool false→B)∧∃ b,v=.bool b
def Heap.push(H:Heap)(cs:List Value):Heap:=⟨H.t.set H.next (some ⟨cs,true⟩),Nat.succ H.next,H.floor,H.lps⟩
def zrc(cs:List Value)(H:Heap)(K:Value→Heap→Prop):Prop:=K (.pointer (some ⟨H.next,0,none⟩)) (H.push cs)
def zQb(A:(List Value→Heap→Prop)→Prop)(B:List Value→Heap→Prop):Prop:=∃ J,A J∧∀ l H,J l H→B l H
def zla(c a b:Value):Option Value:=match c with|.bool t=>(match t with|true=>some a|false=>some b)|_=>none
def zxg(i:Nat)(x:Value):Option Value:=match x with|.tuple vs=>atN vs.toList i|_=>none
def zeb(s:Nat→Bool)(ids:List Nat):Prop:=zRi s ids=true
def zMq(a b:List Nat):Prop:=zid a b=true
def zIu(a:List Nat)(lo hi:Nat):Prop:=outside a lo hi=true
def zhf(k:IntKind)(x:Value)(H:Heap):R:=match x with|.int _ n=>some (.int k (zqc k n),H)|_=>none
def lenSl(x:Value)(H:Heap):R:=match x with|.slice _ n _=>some (.int .i64 n,H)|_=>none
def ztt(x:Value)(H:Heap):R:=match x with|.string s=>some (.int .i64 (Int.ofNat (zce s.data.toList)),H)|_=>none
def zc(P:Program)(t:TypeId):List Value:=match zTc P t with|some z=>zya z|none=>[]
section
variable[Orc](P:Program)
def wT(t:Task)(K:Value→Heap→Prop):Prop:=∃ n ex v H',zpc P n t=some ⟨ex,[v],H'⟩∧K v H'
def wCall(f:FuncId)(args:List Value)(H:Heap)(K:Value→Heap→Prop):Prop:=wT P (.call f args H) K
def zmE(x:Option Tgt)(H:Heap)(K:Value→Heap→Prop):Prop:=match x with
 | some t=>(match t with
  | .fn f args=>wCall P f args H K
  | .yld l args=>wT P (.round l args H) K)
 | none=>False
def zXG(op:Op)(ρ:Env)(H:Heap)(K:Value→Heap→Prop):Prop:=match op with
 | .move x=>K (ev x ρ) H
 | .assign x=>K (ev x ρ) H
 | .pick c a b=>opP (zla (ev c ρ) (ev a ρ) (ev b ρ)) fun v=>K v H
 | .alloc t=>match zTc P t with
  | some z=>zrc (zya z) H K
  | none=>False
 | .box _ x=>zrc (zya (ev x ρ)) H K
 | .build t parts=>opP ((zxa P t).f (zso parts.toList ρ)) fun v=>K v H
 | .buildSlice t len parts=>opW ((zoa P t len).f (zso parts.toList ρ) H) K
 | .load t a=>opW ((zbh P t).f (ev a ρ) H) K
 | .store t a x=>match zxb P t with
  | some n=>opW (zka n (ev a ρ) (ev x ρ) H) K
  | none=>False
 | .nilCheck x=>opP (zea (ev x ρ)) fun v=>K v H
 | .binOp op t x y _=>opP ((zma P op t (zee x || zee y)).f (ev x ρ) (ev y ρ)) fun v=>K v H
 | .unOp op _ x=>opP (unA op (ev x ρ)) fun v=>K v H
 | .convert s d x=>opW ((zMu P s d).f (ev x ρ) H) K
 | .makeInterface t x=>match P.underlying t with
  | some (.interface _)=>False
  | some _=>K (.iface t (ev x ρ)) H
  | none=>False
 | .makeFunc fn first cap=>match fn with
  | .func f=>K (.func (.func f) (zDw first.toList ρ).toArray (zDw cap.toList ρ).toArray) H
  | _=>False
 | .makeSlice t l c=>opW ((zRb P t).f (ev l ρ) (ev c ρ) H) K
 | .slice t x lo hi mx=>opP ((zjw P t).f (ev x ρ) (zyI lo ρ) (zyI hi ρ) (zyI mx ρ) H) fun v=>K v H
 | .fieldAddr s x f=>opP ((zXd P s f).f (ev x ρ)) fun v=>K v H
 | .field t x f=>opP ((zlw P t f).f (ev x ρ)) fun v=>K v H
 | .indexAddr t x i=>opP ((zMj P t).f (ev x ρ) (ev i ρ)) fun v=>K v H
 | .index t x i=>opP ((zkw P t).f (ev x ρ) (ev i ρ)) fun v=>K v H
 | .typeAssert x _ a ok=>opP ((zEd P a ok).f (ev x ρ)) fun v=>K v H
 | .extract x i=>opP (zxg i (ev x ρ)) fun v=>K v H
 | .call c=>match c.callee with
  | .builtin b=>opW ((zpg P b c.argTypes.toList).f (zDw c.args.toList ρ) H) K
  | .value f=>zmE P (zIf (ev f ρ) (zDw c.args.toList ρ)) H K
  | .invoke r name=>zmE P (zNu P name (ev r ρ) (zDw c.args.toList ρ)) H K
 | _=>False
def zNq(op:Op)(ρ:Env)(H:Heap)(K:Value→Heap→Prop):Prop:=match zRi (zlc P) op.operands.toList with
 | true=>zXG P op ρ H K
 | false=>False
inductive Kn where
 | yes|no|undef|any
def zDz(l:List (Nat × Kn))(d:Nat):Kn:=List.rec (motive:=fun _=>Kn) .any (fun x _ ih=>cond (Nat.beq x.1 d) x.2 ih) l
def zCC(l:List (Nat × Kn))(d:Option Tmp)(k:Kn):List (Nat × Kn):=match d with|some d=>(d,k)::l|none=>l
def knO(known:List (Nat × Kn))(x:Operand):Kn:=match x with
 | .tmp t=>zDz known t
 | .const v=>match v with
  | .bool b=>(match b with|true=>.yes|false=>.no)
  | _=>.any
 | _=>.any
def znE(known:List (Nat × Kn))(op:Op):Kn:=match op with
 | .pick c a b=>match knO known c with
  | .yes=>knO known a
  | .no=>knO known b
  | _=>.any
 | .move x=>knO known x
 | .assign x=>knO known x
 | _=>.any
def zDC(n:Nat)(d:Option Tmp):Bool:=match d with|some d=>Nat.blt d n|none=>true
def zKm(n:Nat)(all:List Oper)(o:Oper)(doIt skip:List (Nat × Kn)→Prop)(known:List (Nat × Kn))(ρ:Env):Prop:=match zDC n o.dst with
 | false=>False
 | true=>match zmv all o.guard with
  | none=>doIt known
  | some (ds,want)=>match ds with
   | none=>skip known
   | some d=>match zDz known d with
    | .yes=>cond want (doIt known) (skip known)
    | .no=>cond want (skip known) (doIt known)
    | .undef=>skip known
    | .any=>cond want (wIf (ρ d) (doIt ((d,.yes)::known)) (skip ((d,.no)::known))) (wIf (ρ d) (skip ((d,.yes)::known)) (doIt ((d,.no)::known)))
def zEC(n:Nat)(all l:List Oper)(K:Env→Heap→Prop):List (Nat × Kn)→Env→Heap→Prop:=
 List.rec (motive:=fun _=>List (Nat × Kn)→Env→Heap→Prop) (fun _ ρ H=>K ρ H)
  (fun o _ ih known ρ H=>zKm n all o (fun kn=>zNq P o.op ρ H fun v H'=>ih (zCC kn o.dst (znE kn o.op)) (put ρ o.dst v) H') (fun kn=>ih (zCC kn o.dst .undef) (put ρ o.dst undef) H) known ρ) l
def zOq(o:Oper)(p:Plan)(ρ:Env)(H H':Heap):Rec:=⟨p.ix,p.kind,match p.kind with|1=>zJa (zDw o.op.operands.toList ρ)|4=>zJa (zDw o.op.operands.toList ρ)|_=>[],H.next,H'.next,match p.kind with|3=>zcb H H'|_=>fun _=>false⟩
def zPk(k j:Rec)(X:Prop):Prop:=match k.kind with
 | 0=>X
 | 1=>match j.kind with
  | 3=>zeb j.same k.ids∧X
  | 4=>zMq k.ids j.ids∧X
  | _=>X
 | 2=>match j.kind with
  | 0=>X
  | 1=>zIu j.ids k.lo k.hi∧X
  | 2=>X
  | 4=>zIu j.ids k.lo k.hi∧X
  | _=>False
 | 3=>match j.kind with
  | 0=>X
  | 1=>zeb k.same j.ids∧X
  | 2=>X
  | _=>False
 | 4=>match j.kind with
  | 0=>X
  | 1=>zMq k.ids j.ids∧zIu j.ids k.lo k.hi∧X
  | 2=>X
  | _=>False
 | _=>False
def zFC(mask:Nat)(j:Rec)(rs:List Rec)(X:Prop):Prop:=match j.kind with
 | 0=>X
 | _=>List.rec (motive:=fun _=>Prop) X (fun k _ ih=>cond (zJf mask k.ix) ih (zPk k j ih)) rs
def zLI(H1 H:Heap):Prop:=Nat.beq H1.next H.next=true
def zXr(p:Plan)(op:Op)(ρ:Env)(H:Heap)(K:Value→Heap→Prop):Prop:=match p.bare with
 | true=>zNq P op ρ (bare H) fun v H1=>zLI H1 H∧K v H
 | false=>zNq P op ρ H K
def vcD(n:Nat)(all:List Oper)(l:List (Oper × Plan))(K:Env→Heap→Prop):List (Nat × Kn)→Env→Heap→List Rec→Prop:=
 List.rec (motive:=fun _=>List (Nat × Kn)→Env→Heap→List Rec→Prop) (fun _ ρ H _=>K ρ H)
  (fun o _ ih known ρ H rs=>zKm n all o.1 (fun kn=>zXr P o.2 o.1.op ρ H fun v H'=>zFC o.2.mask (zOq o.1 o.2 ρ H H') rs (ih (zCC kn o.1.dst (znE kn o.1.op)) (put ρ o.1.dst v) H' (zOq o.1 o.2 ρ H H'::rs)))
   (fun kn=>ih (zCC kn o.1.dst .undef) (put ρ o.1.dst undef) H rs) known ρ) l
def vcR(n:Nat)(ops:List Oper)(d:Bool)(ρ:Env)(H:Heap)(K:Env→Heap→Prop):Prop:=match d with
 | true=>match zCr ops with
  | true=>vcD P n ops (zwl P ops) K [] ρ H []
  | false=>False
 | false=>zEC P n ops ops K [] ρ H
def zGl(keys:List Nat)(ρ:Env)(T:List Value):Prop:=∀ i,i ∈ keys→nth T i=ρ i
def exQ(Qx:Nat→List Value→Heap→Prop)(Qr:List Value→Heap→Prop):Ex→List Value→Heap→Prop
 | .normal=>fun _ _=>False
 | .exit id=>Qx id
 | .ret=>Qr
def zdb(top:Bool)(n:Nat)(b:Code)(X:Nat)(vals:List Value)(H:Heap)(Qx:Nat→List Value→Heap→Prop)(Qr:List Value→Heap→Prop):Prop:=
 ∀ T,T.length=n→zGl (bits n (live b 0 X)) (zgf (bits n (live b 0 X)) vals) T →
  ∃ m o,zpc P m (.loop top b T H)=some o∧o.T.length=n∧∃ l,zGl (bits n X) (zgf (bits n X) l) o.T∧exQ Qx Qr o.ex l o.H
def zYG(J:Env→Heap→Prop)(Q:Ex→Env→Heap→Prop):Ex→Env→Heap→Prop
 | .normal=>J
 | .exit id=>Q (.exit id)
 | .ret=>Q .ret
def zoE(id:Nat)(Q:Ex→Env→Heap→Prop):Ex→Env→Heap→Prop
 | .normal=>Q .normal
 | .exit i=>fun ρ H=>cond (Nat.beq i id) (Q .normal ρ H) (Q (.exit i) ρ H)
 | .ret=>Q .ret
def zZG(n:Nat)(b:Code)(X:Nat)(N:List Value→Heap→Prop)(Qx:Nat→List Value→Heap→Prop)(Qr:List Value→Heap→Prop):Ex→Env→Heap→Prop
 | .normal=>fun ρ H=>N (zHu ρ (bits n (live b 0 X))) H
 | .exit id=>fun ρ H=>Qx id (zHu ρ (bits n X)) H
 | .ret=>fun ρ H=>Qr (zHu ρ (bits n X)) H
def exR(N:Heap→Prop)(Qx:Nat→Heap→Prop)(Qr:Heap→Prop):Ex→Heap→Prop
 | .normal=>N
 | .exit id=>Qx id
 | .ret=>Qr
def zHl(asg body:Code):Nat:=live asg (live body 0 0) 0
def zFw(n:Nat)(ps:List Tmp)(asg body:Code)(vals:List Value)(g:Value)(H:Heap)(N:Heap→Prop)(Qx:Nat→Heap→Prop)(Qr:Heap→Prop):Prop:=
 ∀ T,T.length=n→zGl (bits n (zHl asg body)) (zgf (bits n (zHl asg body)) vals) T →
  ∃ m o,zXi (zpc P m) g ps asg body T H=some o∧o.T=T∧exR N Qx Qr o.ex o.H
def evR(g:Operand)(ρ:Env):Value:=match g with|.tmp t=>ρ t|_=>undef
def zGC(c:Code):List (List Tmp × Code × Code):=
 Code.rec (motive:=fun _=>List (List Tmp × Code × Code)) [] (fun _ _ _=>[]) (fun _ _ a b=>zhg a b) (fun _ _ _ a b=>zhg a b) (fun _ _ a=>a) (fun _ a=>a) (fun _ ps asg body a b=>(ps.toList,asg,body)::zhg a b) (fun _=>[]) (fun _ a=>a) (fun _=>[]) (fun _=>[]) [] (fun _=>[]) c
def zaF(c:Code):List Code:=
 Code.rec (motive:=fun _=>List Code) [] (fun _ _ _=>[]) (fun _ _ a b=>zhg a b) (fun _ _ _ a b=>zhg a b) (fun _ _ a=>a) (fun b a=>b::a) (fun _ _ _ _ a b=>zhg a b) (fun _=>[]) (fun _ a=>a) (fun _=>[]) (fun _=>[]) [] (fun _=>[]) c
def codeOf(P:Program)(f:FuncId):Code:=match P.funcs.toList[f]? with
 | some fn=>(match fn.body with|some c=>c|none=>.skip)
 | none=>.skip
def zmb(P:Program)(f:FuncId)(i:Nat):Code:=match atN (zaF (codeOf P f)) i with
 | some b=>b
 | none=>.skip
def rangeAt(P:Program)(f:FuncId)(i:Nat):List Tmp × Code × Code:=match atN (zGC (codeOf P f)) i with
 | some b=>b
 | none=>([],.skip,.skip)
def vcC(top:Bool)(n:Nat)(c:Code):Nat→Nat→Env→Heap→(Ex→Env→Heap→Prop)→Prop:=
 Code.rec (motive:=fun _=>Nat→Nat→Env→Heap→(Ex→Env→Heap→Prop)→Prop)
  (fun _ _ ρ H Q=>Q .normal ρ H)
  (fun _ ops d _ _ ρ H Q=>vcR P n ops.toList d ρ H (Q .normal))
  (fun a b ia ib N X ρ H Q=>match zWG a b with
   | true=>zQb (fun J=>ia (live b N X) X ρ H (zYG (fun ρ H=>J (zHu ρ (bits n (live b N X))) H) Q)) (fun l H=>ib N X (zgf (bits n (live b N X)) l) H Q)
   | false=>ia (live b N X) X ρ H (zYG (fun ρ H=>ib N X ρ H Q) Q))
  (fun c _ _ ia ib N X ρ H Q=>wIf (ev c ρ) (ia N X ρ H Q) (ib N X ρ H Q))
  (fun id _ ib N X ρ H Q=>ib N (Nat.lor N X) ρ H (zoE id Q))
  (fun b _ _ X ρ H Q=>match Nat.beq (live b (live b 0 X) X) (live b 0 X) with
   | true=>zdb P top n b X (zHu ρ (bits n (live b 0 X))) H (fun id l H=>Q (.exit id) (zgf (bits n X) l) H) (fun l H=>Q .ret (zgf (bits n X) l) H)
   | false=>False)
  (fun g ps asg body _ _ _ _ ρ H Q=>match top with
   | true=>zFw P n ps.toList asg body (zHu ρ (bits n (zHl asg body))) (evR g ρ) H (Q .normal ρ) (fun id=>Q (.exit id) ρ) (Q .ret ρ)
   | false=>False)
  (fun id _ _ ρ H Q=>Q (.exit id) ρ H)
  (fun _ _ _ _ _ _ _=>False)
  (fun _ _ _ ρ H Q=>Q .normal ρ H)
  (fun _ _ _ _ _ _=>False)
  (fun _ _ ρ H Q=>Q .ret ρ H)
  (fun _ _ _ _ _ _=>False) c
def zHC(ps:List Tmp)(args:List Value):Nat→Env→Env:=List.rec (motive:=fun _=>Nat→Env→Env) (fun _ ρ=>ρ) (fun p _ ih k ρ=>ih (Nat.succ k) (put ρ (some p) (nth args k))) ps
def zGw(l:Nat)(H:Heap)(K:Heap→Prop):Prop:=∃ H2,zLo l H=some H2∧K H2
def zaH(l:Nat)(e:Ex)(H:Heap)(K:Value→Heap→Prop):Prop:=∃ H2,mark l (zzG e) H=some H2∧K (.bool (zln e)) H2
def zLJ(l:Nat)(B:Env→Heap→Prop):Ex→Env→Heap→Prop
 | .normal=>fun ρ H=>zGw l H (B ρ)
 | .exit _=>fun _ _=>False
 | .ret=>fun _ _=>False
def znv(n:Nat)(ps:List Tmp)(asg body:Code)(vals args:List Value)(l:Nat)(H:Heap)(K:Value→Heap→Prop):Prop:=
 vcC P false n asg (live body 0 0) 0 (zHC ps args 0 (zgf (bits n (zHl asg body)) vals)) H (zLJ l fun ρ H=>vcC P false n body 0 0 ρ H fun e _ H=>zaH l e H K)
def zAI(r:ResultVar)(ρ:Env)(H:Heap)(K:Value→Prop):Prop:=match r with
 | .tmp t=>K (ρ t)
 | .cell a t=>opW ((zbh P t).f (ρ a) H) fun v _=>K v
def zMI(rs:List ResultVar)(ρ:Env)(H:Heap):(List Value→Prop)→Prop:=
 List.rec (motive:=fun _=>(List Value→Prop)→Prop) (fun k=>k []) (fun r _ ih k=>zAI P r ρ H fun v=>ih fun vs=>k (v::vs)) rs
def zAG(rs:List ResultVar)(ρ:Env)(H:Heap)(K:Value→Heap→Prop):Prop:=match rs with
 | [r]=>zAI P r ρ H fun v=>K v H
 | rs=>zMI P rs ρ H fun vs=>K (.tuple vs.toArray) H
def rdR(r:ResultVar):Nat:=match r with|.tmp t=>Nat.shiftLeft 1 t|.cell a _=>Nat.shiftLeft 1 a
def zrq(rs:List ResultVar):Nat:=List.rec (motive:=fun _=>Nat) 0 (fun r _ ih=>Nat.lor (rdR r) ih) rs
def zzJ(rs:List ResultVar)(K:Value→Heap→Prop):Ex→Env→Heap→Prop
 | .normal=>fun ρ H=>zAG P rs ρ H K
 | .exit _=>fun _ _=>False
 | .ret=>fun ρ H=>zAG P rs ρ H K
def vcF(f:FuncId)(args:List Value)(H:Heap)(K:Value→Heap→Prop):Prop:=match P.funcs.toList[f]? with
 | some fn=>match fn.body with
  | some c=>match Nat.ble (zce args) fn.ntmps with
   | true=>vcC P true fn.ntmps c (zrq fn.results.toList) (zrq fn.results.toList) (fun i=>nth args i) H (zzJ P fn.results.toList K)
   | false=>False
  | none=>False
 | none=>False
end
end
end Go.Ab
namespace Go.Ab
open Go
local instance:Base:=⟨fun _=>none,0⟩
set_option linter.unusedVariables false
set_option linter.unusedSectionVars false
theorem zpE(a b i:Nat):zJf (Nat.lor a b) i=(zJf a i || zJf b i):=by
 rw[zKf,zKf,zKf,show Nat.lor a b=a ||| b from rfl,Nat.testBit_or]
theorem zLm(t i:Nat):zJf (Nat.shiftLeft 1 t) i=decide (t=i):=by
 rw[zKf,show Nat.shiftLeft 1 t=1 <<< t from rfl,Nat.testBit_shiftLeft]
 by_cases h:t=i
 ·subst h; simp
 ·simp only[h,decide_false]
  by_cases h2:i ≥ t
  ·have h3:i - t≠0:=by omega
   have:Nat.testBit 1 (i - t)=false:=by
    cases hb:Nat.testBit 1 (i - t) with
    | false=>rfl
    | true=>rw[Nat.testBit_one_eq_true_iff_self_eq_zero] at hb; exact absurd hb h3
   rw[this]; simp
  ·simp[h2]
theorem zEz(m d i:Nat):zJf (clr m d) i=(zJf m i && decide (d≠i)):=by
 unfold clr
 cases hb:zJf m d with
 | true=>
  simp only[cond_true]
  rw[zKf,show Nat.xor m (Nat.shiftLeft 1 d)=m ^^^ (1 <<< d) from rfl,Nat.testBit_xor,← zKf,← zKf,show (1 <<< d)=Nat.shiftLeft 1 d from rfl,zLm]
  by_cases h:d=i
  ·subst h; simp[hb]
  ·simp[h]
 | false=>
  simp only[cond_false]
  by_cases h:d=i
  ·subst h; simp[hb]
  ·simp[h]
def Agree(m:Nat)(ρ:Env)(T:List Value):Prop:=∀ i,zJf m i=true→nth T i=ρ i
theorem Agree.or{a b:Nat}{ρ:Env}{T:List Value}(h:Agree (Nat.lor a b) ρ T):Agree a ρ T∧Agree b ρ T:=
 ⟨fun i hi=>h i (by rw[zpE,hi]; rfl),fun i hi=>h i (by rw[zpE,hi,Bool.or_true])⟩
theorem zov{T:List Value}{d i:Nat}{v:Value}(hd:d < T.length):nth (zaf T d v) i=if d=i then v else nth T i:=by
 rw[zFb,zMc,zMc,List.getD_eq_getElem?_getD,List.getD_eq_getElem?_getD]
 by_cases h:d=i
 ·subst h; rw[if_pos rfl,List.getElem?_set_self hd]; rfl
 ·rw[if_neg h,List.getElem?_set_ne h]
theorem zZi{m n:Nat}{ρ:Env}{T:List Value}{d:Option Tmp}{v:Value}(hl:T.length=n)(hd:zDC n d=true)(h:Agree (zzI m d) ρ T):Agree m (put ρ d v) (zrg T d v):=by
 cases d with
 | none=>exact h
 | some d=>
  have hd:d < T.length:=by rw[hl]; have:Nat.blt d n=true:=hd; rw[blt_eq] at this; exact of_decide_eq_true this
  intro i hi
  show nth (zaf T d v) i=cond (Nat.beq i d) v (ρ i)
  rw[zov hd]
  by_cases he:d=i
  ·subst he; rw[if_pos rfl,Nat.beq_refl]; rfl
  ·rw[if_neg he]
   have:Nat.beq i d=false:=by
    cases hc:Nat.beq i d with
    | false=>rfl
    | true=>exact absurd (Nat.eq_of_beq_eq_true hc).symm he
   rw[this]
   refine h i ?_
   show zJf (clr m d) i=true
   rw[zEz,hi]
   simpa using he
theorem zTh{T:List Value}{d:Option Tmp}{v:Value}:(zrg T d v).length=T.length:=zQj
theorem zIC(l:List Operand)(ρ:Env):zDw l ρ=l.map (ev · ρ):=by
 induction l with
 | nil=>rfl
 | cons x r ih=>show ev x ρ::zDw r ρ=_; rw[ih]; rfl
theorem zFz{x:Operand}{ρ:Env}{T:List Value}(h:Agree (rdO x) ρ T):(evC x).g T=ev x ρ:=by
 cases x with
 | tmp t=>exact h t (by show zJf (Nat.shiftLeft 1 t) t=true; rw[zLm]; simp)
 | _=>rfl
theorem zGz{l:List Operand}{ρ:Env}{T:List Value}(h:Agree (rdL l) ρ T):∀ x ∈ l,(evC x).g T=ev x ρ:=by
 induction l with
 | nil=>simp
 | cons x r ih=>
  have h:Agree (Nat.lor (rdO x) (rdL r)) ρ T:=h
  intro y hy
  rcases List.mem_cons.1 hy with rfl|hy
  ·exact zFz h.or.1
  ·exact ih h.or.2 y hy
theorem zgh{l:List Operand}{ρ:Env}{T:List Value}(h:∀ x ∈ l,(evC x).g T=ev x ρ):evs l T=zDw l ρ:=by
 rw[zRg,zIC]; exact List.map_congr_left h
theorem zIl{l:List (Nat × Operand)}{ρ:Env}{T:List Value}(h:∀ p ∈ l,(evC p.2).g T=ev p.2 ρ):zDe l T=zso l ρ:=by
 induction l with
 | nil=>rfl
 | cons p r ih=>
  obtain⟨i,o⟩:=p
  show (i,(evC o).g T)::zDe r T=(i,ev o ρ)::zso r ρ
  rw[h (i,o) (by simp),ih fun q hq=>h q (by simp[hq])]
theorem zgp{o:Option Operand}{ρ:Env}{T:List Value}(h:∀ x,o=some x→(evC x).g T=ev x ρ):evO o T=zyI o ρ:=by
 cases o with
 | none=>rfl
 | some x=>show some _=some _; rw[h x rfl]
section
variable{P:Program}[Orc]
theorem zyd{r:Option Value}{H:Heap}{K:Value→Heap→Prop}(h:opP r fun v=>K v H):∃ v H',zIc H r=some (v,H')∧K v H':=by
 obtain⟨v,rfl,hk⟩:=h
 exact⟨v,H,rfl,hk⟩
theorem zut{cs:List Value}{H:Heap}{K:Value→Heap→Prop}(h:zrc cs H K):∃ v H',zrl cs H=some (v,H')∧K v H':=⟨_,_,rfl,h⟩
theorem zHz{op:Op}{ρ:Env}{T:List Value}{H:Heap}{K:Value→Heap→Prop}(hop:∀ x ∈ op.operands.toList,(evC x).g T=ev x ρ)(hnc:∀ c,op=.call c→∃ b,c.callee=.builtin b)(h:zXG P op ρ H K) :
  ∃ v H',(opC P op).f T H=some (v,H')∧K v H':=by
 cases op <;> simp only[zXG] at h <;> simp only[opC] <;> first|exact h.elim|skip
 case move x=>exact⟨_,_,by rw[hop x (by simp[Op.operands])],h⟩
 case assign x=>exact⟨_,_,by rw[hop x (by simp[Op.operands])],h⟩
 case pick c a b=>
  obtain⟨v,hv,hk⟩:=h
  rw[hop c (by simp[Op.operands]),hop a (by simp[Op.operands]),hop b (by simp[Op.operands])]
  unfold zla at hv
  split at hv
  ·rename_i t he
   rw[he]
   cases t with
   | true=>cases hv; exact⟨_,_,rfl,hk⟩
   | false=>cases hv; exact⟨_,_,rfl,hk⟩
  ·cases hv
 case alloc t=>
  cases hz:zTc P t with
  | some z=>rw[hz] at h; exact zut h
  | none=>rw[hz] at h; exact h.elim
 case box t x=>rw[hop x (by simp[Op.operands])]; exact zut h
 case build t parts=>
  rw[zIl fun p hp=>hop p.2 (by simp[Op.operands]; exact⟨p.1,by simpa using hp⟩)]
  exact zyd h
 case buildSlice t len parts=>
  rw[zIl fun p hp=>hop p.2 (by simp[Op.operands]; exact⟨p.1,by simpa using hp⟩)]
  exact h
 case load t a=>rw[hop a (by simp[Op.operands])]; exact h
 case store t a x=>
  cases hz:zxb P t with
  | some z=>rw[hz] at h; simp only; rw[hop a (by simp[Op.operands]),hop x (by simp[Op.operands])]; exact h
  | none=>rw[hz] at h; exact h.elim
 case nilCheck x=>rw[hop x (by simp[Op.operands])]; exact zyd h
 case binOp o t x y z=>rw[hop x (by simp[Op.operands]),hop y (by simp[Op.operands])]; exact zyd h
 case unOp o t x=>rw[hop x (by simp[Op.operands])]; exact zyd h
 case convert s d x=>rw[hop x (by simp[Op.operands])]; exact h
 case makeInterface t x=>
  cases hu:P.underlying t with
  | none=>rw[hu] at h; exact h.elim
  | some td=>
   rw[hu] at h
   rw[← hop x (by simp[Op.operands])] at h
   cases td <;> first|exact h.elim|exact⟨_,_,rfl,h⟩
 case makeFunc fn first cap=>
  cases fn <;> first|exact h.elim|skip
  simp only
  rw[zgh fun z hz=>hop z (by simp[Op.operands]; exact .inl (by simpa using hz)),zgh fun z hz=>hop z (by simp[Op.operands]; exact .inr (by simpa using hz))]
  exact⟨_,_,rfl,h⟩
 case makeSlice t l c=>rw[hop l (by simp[Op.operands]),hop c (by simp[Op.operands])]; exact h
 case slice t x lo hi mx=>
  rw[hop x (by simp[Op.operands]),zgp fun y e=>hop y (by subst e; simp[Op.operands]),zgp fun y e=>hop y (by subst e; simp[Op.operands]),zgp fun y e=>hop y (by subst e; simp[Op.operands])]
  exact zyd h
 case fieldAddr s x f=>rw[hop x (by simp[Op.operands])]; exact zyd h
 case field t x f=>rw[hop x (by simp[Op.operands])]; exact zyd h
 case indexAddr t x i=>rw[hop x (by simp[Op.operands]),hop i (by simp[Op.operands])]; exact zyd h
 case index t x i=>rw[hop x (by simp[Op.operands]),hop i (by simp[Op.operands])]; exact zyd h
 case typeAssert x t a ok=>rw[hop x (by simp[Op.operands])]; exact zyd h
 case extract x i=>
  rw[hop x (by simp[Op.operands])]
  obtain⟨v,hv,hk⟩:=h
  unfold zxg at hv
  split at hv
  ·rename_i vs he; rw[he]; exact⟨v,H,by simp only[hv]; rfl,hk⟩
  ·cases hv
 case call c=>
  obtain⟨b,hb⟩:=hnc c rfl
  rw[hb] at h ⊢
  simp only at h ⊢
  rw[zgh fun z hz=>hop z (by simp[Op.operands,Call.operands]; exact .inr (by simpa using hz))]
  exact h
theorem zNx{t:Tgt}{H:Heap}{K:Value→Heap→Prop}(h:zmE P (some t) H K):∃ m v H',zcf (zpc P m) (some t) H=some (v,H')∧K v H':=by
 cases t with
 | fn f args=>
  obtain⟨n,ex,v,H',h1,h2⟩:=h
  refine⟨n,v,H',?_,h2⟩
  unfold zcf
  simp only[zmw,h1]
 | yld l args=>
  obtain⟨n,ex,v,H',h1,h2⟩:=h
  refine⟨n,v,H',?_,h2⟩
  unfold zcf
  simp only[zmw,h1]
theorem zsn{x:Option Tgt}{H:Heap}{K:Value→Heap→Prop}(h:zmE P x H K):∃ m v H',zcf (zpc P m) x H=some (v,H')∧K v H':=by
 cases x with
 | none=>exact h.elim
 | some t=>exact zNx h
theorem zhp{op:Op}{ρ:Env}{T:List Value}{H:Heap}{K:Value→Heap→Prop}(hop:∀ x ∈ op.operands.toList,(evC x).g T=ev x ρ)(h:zNq P op ρ H K) :
  ∃ m v H',(zCc P op).f (zpc P m) T H=some (v,H')∧K v H':=by
 unfold zNq at h
 split at h
 case h_2=>exact h.elim
 case h_1 hok=>
 unfold zCc
 rw[hok]
 simp only
 unfold zvl
 split
 ·rename_i c
  split
  ·rename_i b hb
   obtain⟨v,H',h1,h2⟩:=zHz hop (fun c' e=>by cases e; exact⟨b,hb⟩) h
   exact⟨0,v,H',h1,h2⟩
  ·rename_i f hf
   simp only[zXG,hf] at h
   simp only
   rw[hop f (by simp[Op.operands,Call.operands,hf]),zgh fun z hz=>hop z (by simp[Op.operands,Call.operands]; exact .inr (by simpa using hz))]
   exact zsn h
  ·rename_i r name hf
   simp only[zXG,hf] at h
   simp only
   rw[hop r (by simp[Op.operands,Call.operands,hf]),zgh fun z hz=>hop z (by simp[Op.operands,Call.operands]; exact .inr (by simpa using hz))]
   exact zsn h
 ·rename_i hne
  obtain⟨v,H',h1,h2⟩:=zHz hop (fun c e=>absurd e (hne c)) h
  exact⟨0,v,H',h1,h2⟩
def zIz(T:List Value)(d:Nat):Kn→Prop
 | .yes=>nth T d=.bool true
 | .no=>nth T d=.bool false
 | .undef=>nth T d=Go.undef
 | .any=>True
def KnOk(known:List (Nat × Kn))(T:List Value):Prop:=∀ d,zIz T d (zDz known d)
theorem zvt(x:Nat × Kn)(l:List (Nat × Kn))(d:Nat):zDz (x::l) d=if x.1=d then x.2 else zDz l d:=by
 show cond (Nat.beq x.1 d) x.2 (zDz l d)=_
 cases hb:Nat.beq x.1 d with
 | true=>rw[if_pos (Nat.eq_of_beq_eq_true hb)]; rfl
 | false=>rw[if_neg (Nat.ne_of_beq_eq_false hb)]; rfl
theorem KnOk.cons{known:List (Nat × Kn)}{T:List Value}(h:KnOk known T){d:Nat}{k:Kn}(hk:zIz T d k):KnOk ((d,k)::known) T:=fun i=>by
 rw[zvt]
 split
 ·rename_i e; cases e; exact hk
 ·exact h i
theorem KnOk.put{known:List (Nat × Kn)}{T:List Value}{n:Nat}(hl:T.length=n){d:Option Tmp}(hd:zDC n d=true)(h:KnOk known T){v:Value}{k:Kn}(hk:∀ T' x,nth T' x=v→zIz T' x k):KnOk (zCC known d k) (zrg T d v):=by
 cases d with
 | none=>exact h
 | some d=>
  have hd:d < T.length:=by rw[hl]; have:Nat.blt d n=true:=hd; rw[blt_eq] at this; exact of_decide_eq_true this
  have same:nth (zaf T d v) d=v:=by rw[zov hd,if_pos rfl]
  intro i
  show zIz (zaf T d v) i (zDz ((d,k)::known) i)
  rw[zvt]
  split
  ·rename_i e; cases e; exact hk _ _ same
  ·rename_i e
   have e:¬ d=i:=e
   have hi:=h i
   have e2:nth (zaf T d v) i=nth T i:=by rw[zov hd,if_neg e]
   cases hg:zDz known i <;> rw[hg] at hi <;> simp only[zIz,e2] <;> exact hi
theorem zwt{known:List (Nat × Kn)}{T:List Value}(hk:KnOk known T)(x:Operand):∀ T' i,nth T' i=(evC x).g T→zIz T' i (knO known x):=by
 intro T' i h
 cases x with
 | tmp t=>
  have:=hk t
  have h:nth T' i=nth T t:=h
  show zIz T' i (zDz known t)
  cases hg:zDz known t <;> rw[hg] at this <;> simp only[zIz] at this ⊢ <;> first|trivial|exact h.trans this
 | const v=>
  cases v <;> first|trivial|skip
  rename_i b
  cases b <;> exact h
 | _=>trivial
theorem zpv{known:List (Nat × Kn)}{T:List Value}{m:Nat}{op:Op}{H H':Heap}{v:Value}(hk:KnOk known T)(h:(zCc P op).f (zpc P m) T H=some (v,H')):∀ T' i,nth T' i=v→zIz T' i (znE known op):=by
 intro T' i hv
 cases op <;> first|trivial|skip
 case move x=>
  unfold zCc at h
  split at h
  ·cases h; exact zwt hk x T' i hv
  ·cases h
 case assign x=>
  unfold zCc at h
  split at h
  ·cases h; exact zwt hk x T' i hv
  ·cases h
 case pick c a b=>
  unfold zCc at h
  split at h
  case h_2=>cases h
  case h_1=>
  have h:(match (evC c).g T with|.bool t=>(match t with|true=>some ((evC a).g T,H)|false=>some ((evC b).g T,H))|_=>none)=some (v,H'):=h
  have hc:=zwt hk c [(evC c).g T] 0 rfl
  show zIz T' i (match knO known c with|.yes=>knO known a|.no=>knO known b|_=>.any)
  cases hkc:knO known c with
  | yes=>
   rw[hkc] at hc
   rw[show (evC c).g T=.bool true from hc] at h
   cases h
   exact zwt hk a T' i hv
  | no=>
   rw[hkc] at hc
   rw[show (evC c).g T=.bool false from hc] at h
   cases h
   exact zwt hk b T' i hv
  | undef=>trivial
  | any=>trivial
theorem zPq{n:Nat}{all:List Oper}{o:Oper}{A B:List (Nat × Kn)→Prop}{known:List (Nat × Kn)}{ρ:Env}{T:List Value}(hk:KnOk known T)(hag:Agree (rdG all o.guard) ρ T)(h:zKm n all o A B known ρ) :
  zDC n o.dst=true∧(((zLa all o.guard).f T=true∧∃ kn,KnOk kn T∧A kn)∨((zLa all o.guard).f T=false∧∃ kn,KnOk kn T∧B kn)):=by
 unfold zKm at h
 split at h
 case h_1=>exact h.elim
 case h_2 hd=>
 refine⟨hd,?_⟩
 cases hg:o.guard with
 | none=>
  rw[hg] at h
  exact .inl ⟨rfl,known,hk,h⟩
 | some jw=>
  obtain⟨j,want⟩:=jw
  rw[hg] at h hag
  have hs:zmv all (some (j,want))=some ((atN all j).bind (·.dst),want):=rfl
  rw[hs] at h
  simp only at h
  have ea:atN all j=all[j]?:=zYi _ _
  cases hb:(all[j]?).bind (·.dst) with
  | none=>
   rw[ea,hb] at h
   have hw:(zLa all (some (j,want))).f T=false:=by unfold zLa; simp only[hb]
   exact .inr ⟨hw,known,hk,h⟩
  | some d=>
   rw[ea,hb] at h
   simp only at h
   have hw:(zLa all (some (j,want))).f T=(match nth T d with|.bool b=>b == want|_=>false):=by unfold zLa; simp only[hb]; rfl
   have hkd:=hk d
   have hρ:nth T d=ρ d:=hag d (by
    have:rdG all (some (j,want))=Nat.shiftLeft 1 d:=by unfold rdG; rw[hs,ea,hb]
    rw[this,zLm]; simp)
   rw[hw]
   cases hgk:zDz known d with
   | yes=>
    rw[hgk] at h hkd
    rw[show nth T d=.bool true from hkd]
    cases want with
    | true=>exact .inl ⟨rfl,known,hk,h⟩
    | false=>exact .inr ⟨rfl,known,hk,h⟩
   | no=>
    rw[hgk] at h hkd
    rw[show nth T d=.bool false from hkd]
    cases want with
    | true=>exact .inr ⟨rfl,known,hk,h⟩
    | false=>exact .inl ⟨rfl,known,hk,h⟩
   | undef=>
    rw[hgk] at h hkd
    rw[show nth T d=Go.undef from hkd]
    exact .inr ⟨rfl,known,hk,h⟩
   | any=>
    rw[hgk] at h
    rw[hρ]
    cases want with
    | true=>
     obtain⟨h1,h2,t,ht⟩:=(show wIf (ρ d) (A ((d,.yes)::known)) (B ((d,.no)::known)) from h)
     rw[ht]
     cases t with
     | true=>exact .inl ⟨rfl,_,hk.cons (d:=d) (k:=.yes) (show nth T d=.bool true from hρ.trans ht),h1 ht⟩
     | false=>exact .inr ⟨rfl,_,hk.cons (d:=d) (k:=.no) (show nth T d=.bool false from hρ.trans ht),h2 ht⟩
    | false=>
     obtain⟨h1,h2,t,ht⟩:=(show wIf (ρ d) (B ((d,.yes)::known)) (A ((d,.no)::known)) from h)
     rw[ht]
     cases t with
     | true=>exact .inr ⟨rfl,_,hk.cons (d:=d) (k:=.yes) (show nth T d=.bool true from hρ.trans ht),h1 ht⟩
     | false=>exact .inl ⟨rfl,_,hk.cons (d:=d) (k:=.no) (show nth T d=.bool false from hρ.trans ht),h2 ht⟩
theorem zYr{n N:Nat}{all:List Oper}{K:Env→Heap→Prop}:∀ (l:List Oper) (known:List (Nat × Kn)) (ρ:Env) (T:List Value) (H:Heap),T.length=n→Agree (zJm all l N) ρ T→KnOk known T→zEC P n all l K known ρ H →
  ∃ m o,zqi P (zpc P m) all l T H=some o∧o.ex=.normal∧o.T.length=n∧∃ ρ',Agree N ρ' o.T∧K ρ' o.H
 | [],known,ρ,T,H,hl,ha,hk,h=>⟨0,_,rfl,rfl,hl,ρ,ha,h⟩
 | o::l,known,ρ,T,H,hl,ha,hk,h=>by
  have ha:Agree (Nat.lor (zzI (zJm all l N) o.dst) (Nat.lor (rdL o.op.operands.toList) (rdG all o.guard))) ρ T:=ha
  have h:zKm n all o (fun kn=>zNq P o.op ρ H fun v H'=>zEC P n all l K (zCC kn o.dst (znE kn o.op)) (put ρ o.dst v) H') (fun kn=>zEC P n all l K (zCC kn o.dst .undef) (put ρ o.dst undef) H) known ρ:=h
  obtain⟨a1,a2⟩:=ha.or
  obtain⟨a2,a3⟩:=a2.or
  obtain⟨hd,hg⟩:=zPq hk a3 h
  rcases hg with⟨hw,kn,hkn,hA⟩|⟨hw,kn,hkn,hB⟩
  ·obtain⟨m1,v,H',h1,h2⟩:=zhp (zGz a2) hA
   obtain⟨m2,o2,g1,g2,g3,g4⟩:=zYr l _ _ _ _ (zTh.trans hl) (zZi hl hd a1) (hkn.put hl hd (k:=znE kn o.op) (zpv hkn h1)) h2
   refine⟨max m1 m2,o2,?_,g2,g3,g4⟩
   show zVe P (zpc P (max m1 m2)) o ((zLa all o.guard).f T) T H (zqi P (zpc P (max m1 m2)) all l)=some o2
   rw[hw]
   unfold zVe
   simp only[zro (zxk (Nat.le_max_left m1 m2)) h1]
   exact zVr (zxk (Nat.le_max_right m1 m2)) _ _ _ _ _ g1
  ·obtain⟨m2,o2,g1,g2,g3,g4⟩:=zYr l _ _ _ _ (zTh.trans hl) (zZi hl hd a1) (hkn.put hl hd (k:=.undef) fun _ _ e=>e) hB
   refine⟨m2,o2,?_,g2,g3,g4⟩
   show zVe P (zpc P m2) o ((zLa all o.guard).f T) T H (zqi P (zpc P m2) all l)=some o2
   rw[hw]
   exact g1
theorem zJz{k j:Rec}{X:Prop}(h:zPk k j X):zch k j=true∧X:=by
 unfold zPk at h
 unfold zch
 split at h
 ·rename_i e; rw[e]; exact⟨rfl,h⟩
 ·rename_i e; rw[e]; simp only
  split at h
  ·rename_i e2; rw[e2]; exact h
  ·rename_i e2; rw[e2]; exact h
  ·rename_i h3 h4
   refine⟨?_,h⟩
   split
   ·rename_i e2; exact absurd e2 h3
   ·rename_i e2; exact absurd e2 h4
   ·rfl
 ·rename_i e; rw[e]; simp only
  split at h
  ·rename_i e2; rw[e2]; exact⟨rfl,h⟩
  ·rename_i e2; rw[e2]; exact h
  ·rename_i e2; rw[e2]; exact⟨rfl,h⟩
  ·rename_i e2; rw[e2]; exact h
  ·exact h.elim
 ·rename_i e; rw[e]; simp only
  split at h
  ·rename_i e2; rw[e2]; exact⟨rfl,h⟩
  ·rename_i e2; rw[e2]; exact h
  ·rename_i e2; rw[e2]; exact⟨rfl,h⟩
  ·exact h.elim
 ·rename_i e; rw[e]; simp only
  split at h
  ·rename_i e2; rw[e2]; exact⟨rfl,h⟩
  ·rename_i e2; rw[e2]; exact⟨by simp only[Bool.and_eq_true]; exact⟨h.1,h.2.1⟩,h.2.2⟩
  ·rename_i e2; rw[e2]; exact⟨rfl,h⟩
  ·exact h.elim
 ·exact h.elim
theorem zbF{p:Plan}{j:Rec}{rs:List Rec}{X:Prop}(h:zFC p.mask j rs X):zKo p j rs=true∧X:=by
 unfold zFC at h
 unfold zKo
 split at h
 ·rename_i e; rw[e]; exact⟨rfl,h⟩
 ·rename_i hne
  have key:zRi (fun k=>zJf p.mask k.ix || zch k j) rs=true∧X:=by
   clear hne
   rw[zpb,List.all_eq_true]
   induction rs with
   | nil=>exact⟨by simp,h⟩
   | cons k r ih=>
    have h:cond (zJf p.mask k.ix) (List.rec (motive:=fun _=>Prop) X (fun k _ ih=>cond (zJf p.mask k.ix) ih (zPk k j ih)) r) (zPk k j (List.rec (motive:=fun _=>Prop) X (fun k _ ih=>cond (zJf p.mask k.ix) ih (zPk k j ih)) r)):=h
    cases hb:zJf p.mask k.ix with
    | true=>
     rw[hb] at h
     obtain⟨i1,i2⟩:=ih h
     refine⟨fun x hx=>?_,i2⟩
     rcases List.mem_cons.1 hx with rfl|hx
     ·simp[hb]
     ·exact i1 x hx
    | false=>
     rw[hb] at h
     obtain⟨c1,c2⟩:=zJz (show zPk k j _ from h)
     obtain⟨i1,i2⟩:=ih c2
     refine⟨fun x hx=>?_,i2⟩
     rcases List.mem_cons.1 hx with rfl|hx
     ·simp[c1]
     ·exact i1 x hx
  split
  ·exact⟨rfl,key.2⟩
  ·exact key
theorem zOx{p:Plan}{o:Oper}{ρ:Env}{T:List Value}{H:Heap}{K:Value→Heap→Prop}(hop:∀ x ∈ o.op.operands.toList,(evC x).g T=ev x ρ)(h:zXr P p o.op ρ H K) :
  ∃ m v H',zBm P (zpc P m) o p T H=some (v,H')∧K v H'∧∀ kn,KnOk kn T→∀ T' i,nth T' i=v→zIz T' i (znE kn o.op):=by
 unfold zXr at h
 unfold zBm
 cases hb:p.bare with
 | true=>
  rw[hb] at h
  obtain⟨m,v,H1,h1,h2,h3⟩:=zhp hop h
  refine⟨m,v,H,?_,h3,fun kn hkn=>zpv hkn h1⟩
  show zQy H ((zCc P o.op).f (zpc P m) T (bare H))=_
  rw[h1]
  unfold zQy
  simp only
  rw[show Nat.beq H1.next H.next=true from h2]
 | false=>
  rw[hb] at h
  obtain⟨m,v,H',h1,h2⟩:=zhp hop h
  exact⟨m,v,H',h1,h2,fun kn hkn=>zpv hkn h1⟩
theorem zKz{n N:Nat}{all:List Oper}{K:Env→Heap→Prop}:∀ (l:List (Oper × Plan)) (known:List (Nat × Kn)) (ρ:Env) (T:List Value) (H:Heap) (rs:List Rec),T.length=n→Agree (zJm all (l.map (·.1)) N) ρ T→KnOk known T→vcD P n all l K known ρ H rs →
  ∃ m o,zWs P (zpc P m) all l T H rs=some o∧o.ex=.normal∧o.T.length=n∧∃ ρ',Agree N ρ' o.T∧K ρ' o.H
 | [],known,ρ,T,H,rs,hl,ha,hk,h=>⟨0,_,rfl,rfl,hl,ρ,ha,h⟩
 | (o,p)::l,known,ρ,T,H,rs,hl,ha,hk,h=>by
  have ha:Agree (Nat.lor (zzI (zJm all (l.map (·.1)) N) o.dst) (Nat.lor (rdL o.op.operands.toList) (rdG all o.guard))) ρ T:=ha
  have h:zKm n all o (fun kn=>zXr P p o.op ρ H fun v H'=>zFC p.mask (zOq o p ρ H H') rs (vcD P n all l K (zCC kn o.dst (znE kn o.op)) (put ρ o.dst v) H' (zOq o p ρ H H'::rs)))
   (fun kn=>vcD P n all l K (zCC kn o.dst .undef) (put ρ o.dst undef) H rs) known ρ:=h
  obtain⟨a1,a2⟩:=ha.or
  obtain⟨a2,a3⟩:=a2.or
  obtain⟨hd,hg⟩:=zPq hk a3 h
  rcases hg with⟨hw,kn,hkn,hA⟩|⟨hw,kn,hkn,hB⟩
  ·obtain⟨m1,v,H',h1,h2,hkv⟩:=zOx (zGz a2) hA
   obtain⟨f1,f2⟩:=zbF h2
   have hrec:zOq o p ρ H H'=zAm o p T H H':=by
    unfold zOq zAm
    rw[zgh (zGz a2)]
    rfl
   rw[hrec] at f1 f2
   obtain⟨m2,o2,g1,g2,g3,g4⟩:=zKz l _ _ _ _ _ (zTh.trans hl) (zZi hl hd a1) (hkn.put hl hd (k:=znE kn o.op) (hkv _ hkn)) f2
   refine⟨max m1 m2,o2,?_,g2,g3,g4⟩
   show zPu P (zpc P (max m1 m2)) o p ((zLa all o.guard).f T) T H rs (zWs P (zpc P (max m1 m2)) all l)=some o2
   rw[hw]
   have hst:zBm P (zpc P (max m1 m2)) o p T H=some (v,H'):=zCw (zxk (Nat.le_max_left m1 m2)) h1
   unfold zPu
   simp only[hst,f1]
   exact zWr (zxk (Nat.le_max_right m1 m2)) _ _ _ _ _ _ g1
  ·obtain⟨m2,o2,g1,g2,g3,g4⟩:=zKz l _ _ _ _ _ (zTh.trans hl) (zZi hl hd a1) (hkn.put hl hd (k:=.undef) fun _ _ e=>e) hB
   refine⟨m2,o2,?_,g2,g3,g4⟩
   show zPu P (zpc P m2) o p ((zLa all o.guard).f T) T H rs (zWs P (zpc P m2) all l)=some o2
   rw[hw]
   exact g1
theorem zLz(l:List Oper):(zwl P l).map (·.1)=l:=by
 unfold zwl zDr
 rw[List.map_map]
 apply List.ext_getElem?
 intro i
 rw[List.getElem?_map]
 cases h:(zsk l)[i]? with
 | none=>
  have h1:=List.getElem?_eq_none_iff.1 h
  rw[zzl] at h1
  rw[List.getElem?_eq_none h1]; rfl
 | some x=>
  obtain⟨h1,_⟩:=zWo l i x h
  rw[h1]; rfl
theorem zbH{n N:Nat}{ops:List Oper}{d:Bool}{ρ:Env}{T:List Value}{H:Heap}{K:Env→Heap→Prop}(hl:T.length=n)(ha:Agree (zJm ops ops N) ρ T)(h:vcR P n ops d ρ H K) :
  ∃ m o,(match d with|true=>zdh P (zpc P m) ops T H|false=>zqi P (zpc P m) ops ops T H)=some o∧o.ex=.normal∧o.T.length=n∧∃ ρ',Agree N ρ' o.T∧K ρ' o.H:=by
 unfold vcR at h
 have hk0:KnOk [] T:=fun d=>trivial
 cases d with
 | false=>exact zYr _ _ _ _ _ hl ha hk0 h
 | true=>
  simp only at h
  split at h
  case h_2=>exact h.elim
  case h_1 hap=>
  obtain⟨m,o,g⟩:=zKz (N:=N) _ _ _ T _ _ hl (by rw[zLz]; exact ha) hk0 h
  refine⟨m,o,?_,g.2⟩
  unfold zdh
  rw[hap]
  exact g.1
theorem zJC(ρ:Env)(l:List Nat):zHu ρ l=l.map ρ:=by
 induction l with
 | nil=>rfl
 | cons i r ih=>show ρ i::zHu ρ r=_; rw[ih]; rfl
theorem zMm(l:List Value):∀ (keys:List Nat) (p i:Nat),(∀ k,keys[k]?=some i→(∀ j,j < k→keys[j]?≠some i)→zIm l keys p i=nth l (p+k))∧(i ∉ keys→zIm l keys p i=undef)
 | [],p,i=>⟨fun k h=>by simp at h,fun _=>rfl⟩
 | x::r,p,i=>by
  obtain⟨h1,h2⟩:=zMm l r (Nat.succ p) i
  have e:zIm l (x::r) p i=cond (Nat.beq i x) (nth l p) (zIm l r (Nat.succ p) i):=rfl
  refine⟨fun k hk hj=>?_,fun hn=>?_⟩
  ·rw[e]
   cases hb:Nat.beq i x with
   | true=>
    have hix:=Nat.eq_of_beq_eq_true hb
    have hk0:k=0:=by
     rcases Nat.eq_zero_or_pos k with h|h
     ·exact h
     ·exact absurd (by simp[hix]) (hj 0 h)
    subst hk0; rfl
   | false=>
    have hix:=Nat.ne_of_beq_eq_false hb
    cases k with
    | zero=>simp at hk; exact absurd hk.symm hix
    | succ k=>
     show zIm l r (Nat.succ p) i=_
     rw[h1 k (by simpa using hk) fun j hjk=>by have:=hj (j+1) (by omega); simpa using this]
     congr 1; omega
  ·rw[e]
   cases hb:Nat.beq i x with
   | true=>exact absurd (by rw[Nat.eq_of_beq_eq_true hb]; simp) hn
   | false=>exact h2 fun h=>hn (by simp[h])
theorem zKC{l:List Nat}{i:Nat}(h:i ∈ l):∃ k:Nat,l[k]?=some i∧∀ j,j < k→l[j]?≠some i:=by
 induction l with
 | nil=>cases h
 | cons x r ih=>
  by_cases hx:x=i
  ·exact⟨0,by simp[hx],fun j hj=>by omega⟩
  ·obtain⟨k,h1,h2⟩:=ih (by rcases List.mem_cons.1 h with h|h; exact absurd h.symm hx; exact h)
   refine⟨k+1,by simpa using h1,fun j hj=>?_⟩
   cases j with
   | zero=>simp[hx]
   | succ j=>simpa using h2 j (by omega)
theorem zQq(ρ:Env)(keys:List Nat)(i:Nat):zgf keys (zHu ρ keys) i=if i ∈ keys then ρ i else undef:=by
 unfold zgf
 obtain⟨h1,h2⟩:=zMm (zHu ρ keys) keys 0 i
 split
 ·rename_i h
  obtain⟨k,a,b⟩:=zKC h
  rw[h1 k a b,zJC,zMc,List.getD_eq_getElem?_getD,List.getElem?_map,Nat.zero_add,a]; rfl
 ·rename_i h; exact h2 h
theorem zxt(m:Nat):∀ (n:Nat) (acc:List Nat) (i:Nat),i ∈ (Nat.rec (motive:=fun _=>List Nat→List Nat) (fun acc=>acc) (fun k ih acc=>ih (cond (zJf m k) (k::acc) acc)) n acc)↔i ∈ acc∨(i < n∧zJf m i=true)
 | 0,acc,i=>by show i ∈ acc↔_; simp
 | n+1,acc,i=>by
  have:=zxt m n (cond (zJf m n) (n::acc) acc) i
  refine this.trans ?_
  cases hb:zJf m n with
  | true=>
   simp only[cond_true,List.mem_cons]
   constructor
   ·rintro ((rfl|h)|h)
    ·exact .inr ⟨by omega,hb⟩
    ·exact .inl h
    ·exact .inr ⟨by omega,h.2⟩
   ·rintro (h|⟨h1,h2⟩)
    ·exact .inl (.inr h)
    ·by_cases he:i=n
     ·exact .inl (.inl he)
     ·exact .inr ⟨by omega,h2⟩
  | false=>
   simp only[cond_false]
   constructor
   ·rintro (h|h)
    ·exact .inl h
    ·exact .inr ⟨by omega,h.2⟩
   ·rintro (h|⟨h1,h2⟩)
    ·exact .inl h
    ·by_cases he:i=n
     ·subst he; rw[hb] at h2; cases h2
     ·exact .inr ⟨by omega,h2⟩
theorem zto{n m i:Nat}:i ∈ bits n m↔i < n∧zJf m i=true:=by
 unfold bits zEw
 rw[zxt]; simp
theorem zPx{n m:Nat}{ρ:Env}{T:List Value}(hl:T.length=n)(h:Agree m ρ T):Agree m (zgf (bits n m) (zHu ρ (bits n m))) T:=fun i hi=>by
 rw[zQq]
 split
 ·exact h i hi
 ·rename_i hn
  rw[zMc,List.getD_eq_getElem?_getD,List.getElem?_eq_none]
  ·rfl
  ·have:¬ i < n:=fun hlt=>hn (zto.2 ⟨hlt,hi⟩)
   omega
theorem zyg{n m:Nat}{ρ:Env}{T:List Value}(h:Agree m ρ T):zGl (bits n m) (zgf (bits n m) (zHu ρ (bits n m))) T:=fun i hi=>by
 rw[zQq,if_pos hi]; exact h i (zto.1 hi).2
theorem zNm{n m:Nat}{l:List Value}{T:List Value}(hl:T.length=n)(h:zGl (bits n m) (zgf (bits n m) l) T):Agree m (zgf (bits n m) l) T:=fun i hi=>by
 by_cases hn:i < n
 ·exact h i (zto.2 ⟨hn,hi⟩)
 ·have h1:nth T i=undef:=by
   rw[zMc,List.getD_eq_getElem?_getD,List.getElem?_eq_none (by omega)]; rfl
  rw[h1]
  exact ((zMm l (bits n m) 0 i).2 fun hm=>hn (zto.1 hm).1).symm
def Lv(N X:Nat):Ex→Nat
 | .normal=>N
 | _=>X
theorem zyt(top:Bool)(n:Nat):∀ (c:Code) (N X:Nat) (ρ:Env) (T:List Value) (H:Heap) (Q:Ex→Env→Heap→Prop),T.length=n→Agree (live c N X) ρ T→vcC P top n c N X ρ H Q →
  ∃ m o,(zAa P top c).f (zpc P m) T H=some o∧o.T.length=n∧∃ ρ',Agree (Lv N X o.ex) ρ' o.T∧Q o.ex ρ' o.H:=by
 intro c
 induction c with
 | skip=>intro N X ρ T H Q hl ha h; exact⟨0,_,rfl,hl,ρ,ha,h⟩
 | region id ops d=>
  intro N X ρ T H Q hl ha h
  obtain⟨m,o,h1,h2,h3,ρ',h4,h5⟩:=zbH (d:=d) hl ha h
  refine⟨m,o,?_,h3,ρ',by rw[h2]; exact h4,by rw[h2]; exact h5⟩
  cases d <;> exact h1
 | seq a b ia ib=>
  intro N X ρ T H Q hl ha h
  have h:(match zWG a b with
   | true=>zQb (fun J=>vcC P top n a (live b N X) X ρ H (zYG (fun ρ H=>J (zHu ρ (bits n (live b N X))) H) Q)) (fun l H=>vcC P top n b N X (zgf (bits n (live b N X)) l) H Q)
   | false=>vcC P top n a (live b N X) X ρ H (zYG (fun ρ H=>vcC P top n b N X ρ H Q) Q)):=h
  have key:∃ J:Env→Heap→Prop,vcC P top n a (live b N X) X ρ H (zYG J Q)∧∀ ρ1 T1 H1,T1.length=n→Agree (live b N X) ρ1 T1→J ρ1 H1→∃ ρ2,Agree (live b N X) ρ2 T1∧vcC P top n b N X ρ2 H1 Q:=by
   split at h
   ·obtain⟨J,hA,hB⟩:=h
    refine⟨_,hA,fun ρ1 T1 H1 hl1 ha1 hJ=>⟨_,zPx hl1 ha1,hB _ _ hJ⟩⟩
   ·exact⟨_,h,fun ρ1 T1 H1 _ ha1 hJ=>⟨ρ1,ha1,hJ⟩⟩
  obtain⟨J,hA,hB⟩:=key
  obtain⟨m1,o1,h1,h2,ρ1,h3,h4⟩:=ia _ _ _ _ _ _ hl ha hA
  obtain⟨e,T1,H1⟩:=o1
  cases e with
  | normal=>
   obtain⟨ρ2,h5,h6⟩:=hB ρ1 T1 H1 h2 h3 h4
   obtain⟨m2,o2,g1,g2,ρ3,g3,g4⟩:=ib _ _ _ _ _ _ h2 h5 h6
   refine⟨max m1 m2,o2,?_,g2,ρ3,g3,g4⟩
   show zdf ((zAa P top a).f (zpc P (max m1 m2)) T H) (fun T H=>(zAa P top b).f (zpc P (max m1 m2)) T H)=some o2
   rw[zPe (zxk (Nat.le_max_left m1 m2)) top _ _ _ _ h1]
   exact zPe (zxk (Nat.le_max_right m1 m2)) top _ _ _ _ g1
  | exit id=>
   refine⟨m1,⟨.exit id,T1,H1⟩,?_,h2,ρ1,h3,h4⟩
   show zdf ((zAa P top a).f (zpc P m1) T H) (fun T H=>(zAa P top b).f (zpc P m1) T H)=_
   rw[h1]; rfl
  | ret=>
   refine⟨m1,⟨.ret,T1,H1⟩,?_,h2,ρ1,h3,h4⟩
   show zdf ((zAa P top a).f (zpc P m1) T H) (fun T H=>(zAa P top b).f (zpc P m1) T H)=_
   rw[h1]; rfl
 | cond c a b ia ib=>
  intro N X ρ T H Q hl ha h
  have ha:Agree (Nat.lor (rdO c) (Nat.lor (live a N X) (live b N X))) ρ T:=ha
  obtain⟨a1,a2⟩:=ha.or
  obtain⟨a2,a3⟩:=a2.or
  obtain⟨h1,h2,t,ht⟩:=(show wIf (ev c ρ) (vcC P top n a N X ρ H Q) (vcC P top n b N X ρ H Q) from h)
  cases t with
  | true=>
   obtain⟨m,o,g1,g2⟩:=ia _ _ _ _ _ _ hl a2 (h1 ht)
   refine⟨m,o,?_,g2⟩
   show ifA (zpc P m) ((evC c).g T) (zAa P top a) (zAa P top b) T H=some o
   rw[zFz a1,ht]; exact g1
  | false=>
   obtain⟨m,o,g1,g2⟩:=ib _ _ _ _ _ _ hl a3 (h2 ht)
   refine⟨m,o,?_,g2⟩
   show ifA (zpc P m) ((evC c).g T) (zAa P top a) (zAa P top b) T H=some o
   rw[zFz a1,ht]; exact g1
 | block id b ib=>
  intro N X ρ T H Q hl ha h
  obtain⟨m,o,g1,g2,ρ',g3,g4⟩:=ib _ _ _ _ _ _ hl ha (show vcC P top n b N (Nat.lor N X) ρ H (zoE id Q) from h)
  obtain⟨e,T1,H1⟩:=o
  have run1:∀ o',zVi id (some ⟨e,T1,H1⟩)=some o'→(zAa P top (.block id b)).f (zpc P m) T H=some o':=fun o' ho=>by
   show zVi id ((zAa P top b).f (zpc P m) T H)=some o'
   rw[g1]; exact ho
  cases e with
  | normal=>exact⟨m,_,run1 _ rfl,g2,ρ',g3,g4⟩
  | ret=>exact⟨m,_,run1 _ rfl,g2,ρ',(show Agree (Nat.lor N X) ρ' T1 from g3).or.2,g4⟩
  | exit i=>
   have g3:Agree (Nat.lor N X) ρ' T1:=g3
   have g4:cond (Nat.beq i id) (Q .normal ρ' H1) (Q (.exit i) ρ' H1):=g4
   cases hb:Nat.beq i id with
   | true=>
    rw[hb] at g4
    refine⟨m,⟨.normal,T1,H1⟩,run1 _ ?_,g2,ρ',g3.or.1,g4⟩
    unfold zVi; simp only[hb]; rfl
   | false=>
    rw[hb] at g4
    refine⟨m,⟨.exit i,T1,H1⟩,run1 _ ?_,g2,ρ',g3.or.2,g4⟩
    unfold zVi; simp only[hb]; rfl
 | loop b _=>
  intro N X ρ T H Q hl ha h
  have h:(match Nat.beq (live b (live b 0 X) X) (live b 0 X) with
   | true=>zdb P top n b X (zHu ρ (bits n (live b 0 X))) H (fun id l H=>Q (.exit id) (zgf (bits n X) l) H) (fun l H=>Q .ret (zgf (bits n X) l) H)
   | false=>False):=h
  split at h
  case h_2=>exact h.elim
  case h_1=>
  obtain⟨m,o,g1,g2,l,g4,g5⟩:=h T hl (zyg (m:=live b 0 X) ha)
  have:=zNm g2 g4
  obtain⟨e,T1,H1⟩:=o
  cases e with
  | normal=>exact (show False from g5).elim
  | exit id=>exact⟨m,_,g1,g2,zgf (bits n X) l,this,g5⟩
  | ret=>exact⟨m,_,g1,g2,zgf (bits n X) l,this,g5⟩
 | exit id=>intro N X ρ T H Q hl ha h; exact⟨0,_,rfl,hl,ρ,ha,h⟩
 | label l=>intro N X ρ T H Q hl ha h; exact⟨0,_,rfl,hl,ρ,ha,h⟩
 | ret=>intro N X ρ T H Q hl ha h; exact⟨0,_,rfl,hl,ρ,ha,h⟩
 | rangeFunc g ps asg body _ _=>
  intro N X ρ T H Q hl ha h
  cases top with
  | false=>exact (show False from h).elim
  | true=>
   have h:zFw P n ps.toList asg body (zHu ρ (bits n (zHl asg body))) (evR g ρ) H (Q .normal ρ) (fun id=>Q (.exit id) ρ) (Q .ret ρ):=h
   have ha:Agree (Nat.lor (rdO g) (Nat.lor (Nat.lor N X) (zHl asg body))) ρ T:=ha
   obtain⟨a1,a2⟩:=ha.or
   obtain⟨a2,a3⟩:=a2.or
   obtain⟨a2,a4⟩:=a2.or
   obtain⟨m,o,g1,g2,g3⟩:=h T hl (zyg a3)
   have hg:(evT g).g T=evR g ρ:=by
    cases g with
    | tmp t=>exact a1 t (by show zJf (Nat.shiftLeft 1 t) t=true; rw[zLm]; simp)
    | _=>rfl
   refine⟨m,o,?_,by rw[g2]; exact hl,ρ,?_,?_⟩
   ·show zXi (zpc P m) ((evT g).g T) ps.toList asg body T H=some o
    rw[hg]; exact g1
   ·rw[g2]
    cases o.ex with
    | normal=>exact a2
    | exit id=>exact a4
    | ret=>exact a4
   ·revert g3
    cases o.ex with
    | normal=>exact fun h=>h
    | exit id=>exact fun h=>h
    | ret=>exact fun h=>h
 | _=>intros; rename_i h; exact h.elim
theorem zJl:∀ (ps:List Tmp) (args T:List Value),(zWi T ps args).length=T.length
 | [],args,T=>by cases args <;> rfl
 | _::_,[],T=>rfl
 | p::ps,v::vs,T=>by
  show (zWi (zaf T p v) ps vs).length=_
  rw[zJl,zFb,List.length_set]
theorem zHw{n:Nat}(args:List Value):∀ (ps:List Tmp) (k:Nat) (rest:List Value) (T:List Value) (ρ:Env) (m:Nat),T.length=n→(∀ p ∈ ps,p < n)→rest.length=ps.length→(∀ i,nth args (k+i)=nth rest i)→Agree m ρ T→Agree m (zHC ps args k ρ) (zWi T ps rest)
 | [],k,rest,T,ρ,m,hl,hp,hr,hn,ha=>by cases rest <;> exact ha
 | p::ps,k,[],T,ρ,m,hl,hp,hr,hn,ha=>by simp at hr
 | p::ps,k,v::vs,T,ρ,m,hl,hp,hr,hn,ha=>by
  show Agree m (zHC ps args (k+1) (put ρ (some p) (nth args k))) (zWi (zaf T p v) ps vs)
  have h0:nth args k=v:=by have:=hn 0; rw[Nat.add_zero] at this; exact this
  refine zHw args ps (k+1) vs _ _ m (by rw[zFb,List.length_set]; exact hl) (fun q hq=>hp q (by simp[hq])) (by simpa using hr) (fun i=>by have:=hn (i+1); rw[show k+1+i=k+(i+1) by omega]; exact this) ?_
  rw[h0]
  refine zZi (d:=some p) (n:=n) hl ?_ ?_
  ·show Nat.blt p n=true
   rw[blt_eq]; exact decide_eq_true (hp p (by simp))
  ·intro i hi
   have hi:zJf (clr m p) i=true:=hi
   rw[zEz,Bool.and_eq_true] at hi
   exact ha i hi.1
theorem zqv{n:Nat}{ps:List Tmp}{asg body:Code}{vals args T:List Value}{l:Nat}{H:Heap}{K:Value→Heap→Prop}(hl:zNe H.lps l=some ⟨T,ps,asg,body,.ready⟩)(hT:T.length=n)
  (hag:zGl (bits n (zHl asg body)) (zgf (bits n (zHl asg body)) vals) T) (hlen:args.length=ps.length) (hps:∀ p ∈ ps,p < n) (h:znv P n ps asg body vals args l H K):wT P (.round l args H) K:=by
 have ha0:Agree (zHl asg body) (zHC ps args 0 (zgf (bits n (zHl asg body)) vals)) (zWi T ps args):=zHw args ps 0 args T _ _ hT hps hlen (fun i=>by rw[Nat.zero_add]) (zNm hT hag)
 obtain⟨m1,o1,g1,g2,ρ1,g3,g4⟩:=zyt false n asg (live body 0 0) 0 _ _ H _ (by rw[zJl]; exact hT) ha0 h
 obtain⟨e1,T1,H1⟩:=o1
 cases e1 with
 | exit id=>exact (show False from g4).elim
 | ret=>exact (show False from g4).elim
 | normal=>
  obtain⟨H2,b1,b2⟩:=(show zGw l H1 (fun H=>vcC P false n body 0 0 ρ1 H fun e _ H=>zaH l e H K) from g4)
  obtain⟨m2,o2,k1,k2,ρ2,k3,k4⟩:=zyt false n body 0 0 _ T1 H2 _ g2 g3 b2
  obtain⟨e2,T2,H3⟩:=o2
  obtain⟨H4,c1,c2⟩:=(show zaH l e2 H3 K from k4)
  refine⟨max m1 m2+1,.ret,.bool (zln e2),H4,?_,c2⟩
  show ztk P (zpc P (max m1 m2)) l args H=_
  unfold ztk
  rw[hl]
  simp only[zFa,hlen,Nat.beq_refl]
  rw[zPe (zxk (Nat.le_max_left m1 m2)) false _ _ _ _ g1]
  show (match zLo l H1 with|some H2=>zOG l ((zAa P false body).f (zpc P (max m1 m2)) T1 H2)|none=>none)=_
  rw[b1]
  simp only
  rw[zPe (zxk (Nat.le_max_right m1 m2)) false _ _ _ _ k1]
  unfold zOG
  simp only
  rw[c1]
theorem zLC{top:Bool}{n:Nat}{b:Code}{X:Nat}{Qx:Nat→List Value→Heap→Prop}{Qr:List Value→Heap→Prop}(hfix:live b (live b 0 X) X=live b 0 X)(I:Nat→List Value→Heap→Prop)
  (hs:∀ k l H,I k l H→vcC P top n b (live b 0 X) X (zgf (bits n (live b 0 X)) l) H (zZG n b X (fun l H=>∃ k',k' < k∧I k' l H) Qx Qr)):∀ k l H,I k l H→zdb P top n b X l H Qx Qr:=by
 intro k
 induction k using Nat.strongRecOn with
 | ind k ih=>
  intro l H hI T hl ha
  obtain⟨m,o,h1,h2,ρ',h3,h4⟩:=zyt top n b _ _ _ T H _ hl (by rw[hfix]; exact zNm hl ha) (hs k l H hI)
  obtain⟨e,T1,H1⟩:=o
  have stop:e≠.normal→exQ Qx Qr e (zHu ρ' (bits n X)) H1→Agree X ρ' T1→∃ m o,zpc P m (.loop top b T H)=some o∧o.T.length=n∧∃ l,zGl (bits n X) (zgf (bits n X) l) o.T∧exQ Qx Qr o.ex l o.H:=by
   intro he hq hag
   refine⟨m+1,⟨e,T1,H1⟩,?_,h2,_,zyg hag,hq⟩
   show zdf ((zAa P top b).f (zpc P m) T H) (fun T H=>zpc P m (.loop top b T H))=_
   rw[h1]
   cases e <;> first|exact absurd rfl he|rfl
  cases e with
  | normal=>
   obtain⟨k',hk,hI'⟩:=h4
   obtain⟨m2,o2,g1,g2⟩:=ih k' hk _ _ hI' T1 h2 (zyg h3)
   refine⟨max m m2+1,o2,?_,g2⟩
   show zdf ((zAa P top b).f (zpc P (max m m2)) T H) (fun T H=>zpc P (max m m2) (.loop top b T H))=_
   rw[zPe (zxk (Nat.le_max_left m m2)) top _ _ _ _ h1]
   exact zxk (Nat.le_max_right m m2) _ _ g1
  | exit id=>exact stop (by simp) h4 h3
  | ret=>exact stop (by simp) h4 h3
theorem zMz{r:ResultVar}{ρ:Env}{T:List Value}{H:Heap}{K:Value→Prop}(ha:Agree (rdR r) ρ T)(h:zAI P r ρ H K):∃ v,zeh P T H r=some v∧K v:=by
 cases r with
 | tmp t=>exact⟨nth T t,rfl,by rw[ha t (by show zJf (Nat.shiftLeft 1 t) t=true; rw[zLm]; simp)]; exact h⟩
 | cell a t=>
  obtain⟨v,H',h1,h2⟩:=h
  refine⟨v,?_,h2⟩
  unfold zeh
  simp only[ha a (by show zJf (Nat.shiftLeft 1 a) a=true; rw[zLm]; simp),h1]
theorem zNz{ρ:Env}{T:List Value}{H:Heap}:∀ (rs:List ResultVar) (k:List Value→Prop),Agree (zrq rs) ρ T→zMI P rs ρ H k→∃ vs,zsg P T H rs=some vs∧k vs
 | [],k,_,h=>⟨[],rfl,h⟩
 | r::rs,k,ha,h=>by
  obtain⟨a1,a2⟩:=(show Agree (Nat.lor (rdR r) (zrq rs)) ρ T from ha).or
  obtain⟨v,h1,h2⟩:=zMz a1 (show zAI P r ρ H fun v=>zMI P rs ρ H fun vs=>k (v::vs) from h)
  obtain⟨vs,h3,h4⟩:=zNz rs _ a2 h2
  exact⟨v::vs,by unfold zsg; simp only[h1,h3],h4⟩
theorem zOz{rs:List ResultVar}{ρ:Env}{T:List Value}{H:Heap}{K:Value→Heap→Prop}(ha:Agree (zrq rs) ρ T)(h:zAG P rs ρ H K):∃ v,ztg P rs T H=some v∧K v H:=by
 unfold zAG at h
 unfold ztg
 split at h
 ·rename_i r
  obtain⟨a1,_⟩:=(show Agree (Nat.lor (rdR r) (zrq [])) ρ T from ha).or
  exact zMz a1 h
 ·rename_i hne
  obtain⟨vs,h1,h2⟩:=zNz _ _ ha h
  split
  ·rename_i r; exact absurd rfl (hne r)
  ·exact⟨_,by rw[h1],h2⟩
noncomputable def vcB(P:Program)(c:Code)(f:FuncId)(args:List Value)(H:Heap)(K:Value→Heap→Prop):Prop:=match P.funcs.toList[f]? with
 | some fn=>match Nat.ble (zce args) fn.ntmps && Nat.ble (zce args) (fn.params.size+fn.nfree) with
  | true=>vcC P true fn.ntmps c (zrq fn.results.toList) (zrq fn.results.toList) (fun i=>nth args i) H (zzJ P fn.results.toList K)
  | false=>False
 | none=>False
theorem zha{f:FuncId}{args:List Value}{H:Heap}{K:Value→Heap→Prop}(hno:Orc.tab f args H=none)(h:vcF P f args H K)(hb:Orc.bod f=none:=by rfl):wCall P f args H K:=by
 unfold vcF at h
 split at h
 case h_2=>exact h.elim
 case h_1 fn hf=>
 split at h
 case h_2=>exact h.elim
 case h_1 c hc=>
 split at h
 case h_2=>exact h.elim
 case h_1 hlen=>
 rw[zAb,zFa] at hlen
 have hlen:=of_decide_eq_true hlen
 have hT:(zhg args (repl (fn.ntmps - zce args) [undef])).length=fn.ntmps:=by
  rw[zQa,zwg,zFa,List.length_append,List.length_replicate]; omega
 have hn:∀ i,nth (zhg args (repl (fn.ntmps - zce args) [undef])) i=nth args i:=by
  intro i
  rw[zQa,zwg,zMc,zMc,List.getD_eq_getElem?_getD,List.getD_eq_getElem?_getD]
  by_cases hi:i < args.length
  ·rw[List.getElem?_append_left hi]
  ·rw[List.getElem?_append_right (by omega),List.getElem?_eq_none (by omega:args.length≤i)]
   cases hx:(List.replicate (fn.ntmps - zce args) undef)[i - args.length]? with
   | none=>rfl
   | some v=>rw[List.getElem?_replicate] at hx; split at hx <;> cases hx; rfl
 obtain⟨m,o,h1,h2,ρ',h3,h4⟩:=zyt true fn.ntmps c _ _ _ _ H _ hT (fun i _=>hn i) h
 obtain⟨e,T1,H1⟩:=o
 have fin:e≠.exit 0→(∀ id,e≠.exit id)→Agree (zrq fn.results.toList) ρ' T1→zAG P fn.results.toList ρ' H1 K→wCall P f args H K:=by
  intro _ hx hag hr
  obtain⟨v,g1,g2⟩:=zOz hag hr
  refine⟨m+1,.ret,v,H1,?_,g2⟩
  show (match Orc.tab f args H with|some v=>some (⟨.ret,[v],H⟩:Out)|none=>match Orc.bod f with|some c=>fnW P f c (zpc P m) args H|none=>(fnC P f).f (zpc P m) args H)=_
  rw[hno,hb]
  simp only
  unfold fnC
  rw[hf]
  simp only[hc]
  rw[h1]
  unfold zSy
  cases e with
  | exit id=>exact absurd rfl (hx id)
  | normal=>simp only[g1]
  | ret=>simp only[g1]
 cases e with
 | normal=>exact fin (by simp) (by simp) h3 h4
 | exit id=>exact (show False from h4).elim
 | ret=>exact fin (by simp) (by simp) h3 h4
theorem ztn{c:Code}{f:FuncId}{args:List Value}{H:Heap}{K:Value→Heap→Prop}(hno:Orc.tab f args H=none)(h:vcB P c f args H K)(hb:Orc.bod f=some c:=by rfl):wCall P f args H K:=by
 unfold vcB at h
 split at h
 case h_2=>exact h.elim
 case h_1 fn hf=>
 split at h
 case h_2=>exact h.elim
 case h_1 hlen=>
 rw[Bool.and_eq_true] at hlen
 have hle:=hlen.2
 have hlen:=hlen.1
 rw[zAb,zFa] at hlen
 have hlen:=of_decide_eq_true hlen
 have hT:(zhg args (repl (fn.ntmps - zce args) [undef])).length=fn.ntmps:=by
  rw[zQa,zwg,zFa,List.length_append,List.length_replicate]; omega
 have hn:∀ i,nth (zhg args (repl (fn.ntmps - zce args) [undef])) i=nth args i:=by
  intro i
  rw[zQa,zwg,zMc,zMc,List.getD_eq_getElem?_getD,List.getD_eq_getElem?_getD]
  by_cases hi:i < args.length
  ·rw[List.getElem?_append_left hi]
  ·rw[List.getElem?_append_right (by omega),List.getElem?_eq_none (by omega:args.length≤i)]
   cases hx:(List.replicate (fn.ntmps - zce args) undef)[i - args.length]? with
   | none=>rfl
   | some v=>rw[List.getElem?_replicate] at hx; split at hx <;> cases hx; rfl
 obtain⟨m,o,h1,h2,ρ',h3,h4⟩:=zyt true fn.ntmps c _ _ _ _ H _ hT (fun i _=>hn i) h
 obtain⟨e,T1,H1⟩:=o
 have fin:e≠.exit 0→(∀ id,e≠.exit id)→Agree (zrq fn.results.toList) ρ' T1→zAG P fn.results.toList ρ' H1 K→wCall P f args H K:=by
  intro _ hx hag hr
  obtain⟨v,g1,g2⟩:=zOz hag hr
  refine⟨m+1,.ret,v,H1,?_,g2⟩
  show (match Orc.tab f args H with|some v=>some (⟨.ret,[v],H⟩:Out)|none=>match Orc.bod f with|some c=>fnW P f c (zpc P m) args H|none=>(fnC P f).f (zpc P m) args H)=_
  rw[hno,hb]
  simp only
  unfold fnW
  rw[hf]
  simp only
  rw[h1]
  unfold zSy
  cases e with
  | exit id=>exact absurd rfl (hx id)
  | normal=>simp only[g1]; rw[hle]; rfl
  | ret=>simp only[g1]; rw[hle]; rfl
 cases e with
 | normal=>exact fin (by simp) (by simp) h3 h4
 | exit id=>exact (show False from h4).elim
 | ret=>exact fin (by simp) (by simp) h3 h4
end
end Go.Ab
namespace Go.Ab
open Go
local instance:Base:=⟨fun _=>none,0⟩
set_option linter.unusedVariables false
set_option linter.unusedSectionVars false
abbrev ptr(p o:Nat):Value:=.pointer (some ⟨p,o,none⟩)
abbrev int(n:Int):Value:=.int .i64 n
abbrev sl(p o n c:Nat):Value:=.slice (some ⟨p,o,none⟩) n c
abbrev zBa:Value:=.slice none 0 0
section pure
variable{P:Program}{H H':Heap}{k:IntKind}
theorem zZr{v:Value}{H:Heap}{K:Value→Heap→Prop}:opW (some (v,H)) K=K v H:=by
 unfold opW; apply propext; constructor
 ·rintro⟨v',H',h,hk⟩; cases h; exact hk
 ·intro h; exact⟨_,_,rfl,h⟩
theorem zIw{A B:Prop}:wIf (.bool true) A B=A:=by
 unfold wIf; apply propext; constructor
 ·intro h; exact h.1 rfl
 ·intro h; exact⟨fun _=>h,fun e=>(by cases e),true,rfl⟩
theorem zzt{A B:Prop}:wIf (.bool false) A B=B:=by
 unfold wIf; apply propext; constructor
 ·intro h; exact h.2.1 rfl
 ·intro h; exact⟨fun e=>(by cases e),fun _=>h,false,rfl⟩
theorem zEc{b:Bool}{A B:Prop}(h1:b=true→A)(h2:b=false→B):wIf (.bool b) A B:=
 ⟨fun e=>h1 (by cases e; rfl),fun e=>h2 (by cases e; rfl),b,rfl⟩
theorem zna{p:Prop}[Decidable p]{A B:Prop}(h1:p→A)(h2:¬ p→B):wIf (.bool (decide p)) A B:=
 zEc (fun h=>h1 (of_decide_eq_true h)) (fun h=>h2 (of_decide_eq_false h))
theorem zwb{a b:Value}:zla (.bool true) a b=some a:=rfl
theorem zVa{a b:Value}:zla (.bool false) a b=some b:=rfl
theorem zda{a:Addr}:zea (.pointer (some a))=some (.pointer (some a)):=rfl
theorem zca{o p q:Nat}:zfa o (ptr p q)=some (ptr p (q+o)):=rfl
theorem zia{v:Value}{l:List Value}:nth (v::l) 0=v:=rfl
theorem zja{v:Value}{l:List Value}{n:Nat}:nth (v::l) (n+1)=nth l n:=rfl
theorem zzg{a:Option Addr}{n c:Nat}{H:Heap}:lenSl (.slice a n c) H=some (.int .i64 n,H):=rfl
theorem zRq:zRs k k=true:=by cases k <;> rfl
theorem zec{op:BinOp}{t:TypeId}{c:Bool}(a b:Int)(h:zwm op=none):(zma P op t c).f (.int k a) (.int k b)=zuI op k a b:=by
 unfold zma; rw[h]; simp only[zRq]
variable{t:TypeId}{c:Bool}{a b:Int}
theorem zPz:(zma P .add t c).f (.int k a) (.int k b)=some (.int k (zqc k (a+b))):=zec a b rfl
theorem zQz:(zma P .sub t c).f (.int k a) (.int k b)=some (.int k (zqc k (a - b))):=zec a b rfl
theorem zRz:(zma P .mul t c).f (.int k a) (.int k b)=some (.int k (zqc k (a * b))):=zec a b rfl
theorem zib:(zma P .eql t c).f (.int k a) (.int k b)=some (.bool (decide (a=b))):=by rw[zec a b rfl]; show some (Value.bool (eqB a b))=_; rw[zug]
theorem zGb:(zma P .neq t c).f (.int k a) (.int k b)=some (.bool (decide (a≠b))):=by rw[zec a b rfl]; show some (Value.bool (not (eqB a b)))=_; rw[zug]; simp
theorem zIa:(zma P .lss t c).f (.int k a) (.int k b)=some (.bool (decide (a < b))):=by
 rw[zec a b rfl]; show some (Value.bool (not (leB b a)))=_; rw[zbc]
 congr 2; by_cases h:a < b
 ·rw[decide_eq_true h,decide_eq_false (by omega)]; rfl
 ·rw[decide_eq_false h,decide_eq_true (by omega)]; rfl
theorem zLf:(zma P .gtr t c).f (.int k a) (.int k b)=some (.bool (decide (b < a))):=by
 rw[zec a b rfl]; show some (Value.bool (not (leB a b)))=_; rw[zbc]
 congr 2; by_cases h:b < a
 ·rw[decide_eq_true h,decide_eq_false (by omega)]; rfl
 ·rw[decide_eq_false h,decide_eq_true (by omega)]; rfl
theorem zrv:(zma P .leq t c).f (.int k a) (.int k b)=some (.bool (decide (a≤b))):=by rw[zec a b rfl]; show some (Value.bool (leB a b))=_; rw[zbc]
theorem zMf:(zma P .geq t c).f (.int k a) (.int k b)=some (.bool (decide (b≤a))):=by rw[zec a b rfl]; show some (Value.bool (leB b a))=_; rw[zbc]
theorem zmc{b:Bool}:unA .not (.bool b)=some (.bool !b):=rfl
theorem zcF:zaC [.int k a,.int k b]=some (.int k (min a b)):=by
 show some (Value.int k (cond (leB a b) a b))=_
 rw[zbc]; by_cases h:a≤b
 ·rw[decide_eq_true h]; show some (Value.int k a)=_; rw[Int.min_eq_left h]
 ·rw[decide_eq_false h]; show some (Value.int k b)=_; rw[Int.min_eq_right (by omega)]
theorem zdF:zJE [.int k a,.int k b]=some (.int k (max a b)):=by
 show some (Value.int k (cond (leB b a) a b))=_
 rw[zbc]; by_cases h:b≤a
 ·rw[decide_eq_true h]; show some (Value.int k a)=_; rw[Int.max_eq_left h]
 ·rw[decide_eq_false h]; show some (Value.int k b)=_; rw[Int.max_eq_right (by omega)]
theorem zun{n:Int}(h1:-9223372036854775808≤n)(h2:n≤9223372036854775807):zqc .i64 n=n:=by
 show zbf 9223372036854775808 18446744073709551616 n=n
 unfold zbf
 cases n with
 | ofNat m=>
  have h2:(m:Int)≤9223372036854775807:=h2
  have:Nat.blt m 9223372036854775808=true:=by rw[blt_eq]; exact decide_eq_true (by omega)
  simp only[this]
 | negSucc m=>
  have:Nat.blt m 9223372036854775808=true:=by rw[blt_eq]; exact decide_eq_true (by omega)
  simp only[this]
theorem zfb{p o n c size:Nat}{i:Int}(h0:0≤i)(h1:i < n):zld size (sl p o n c) (.int k i)=some (ptr p (o+i.toNat * size)):=by
 show zDa n size (ptr p o) (.int k i)=_
 unfold zDa
 have e1:leB 0 i=true:=by rw[zbc]; exact decide_eq_true h0
 have e2:Nat.blt i.toNat n=true:=by rw[blt_eq]; exact decide_eq_true (by omega)
 simp only[e1,e2]
 rfl
theorem zqa{p o n size:Nat}{i:Int}(h0:0≤i)(h1:i < n):zDa n size (ptr p o) (.int k i)=some (ptr p (o+i.toNat * size)):=by
 unfold zDa
 have e1:leB 0 i=true:=by rw[zbc]; exact decide_eq_true h0
 have e2:Nat.blt i.toNat n=true:=by rw[blt_eq]; exact decide_eq_true (by omega)
 simp only[e1,e2]
 rfl
end pure
namespace Tr
variable{α:Type}
def In:Tr α→Nat→Prop
 | .nil,_=>False
 | .node _ _ _,0=>True
 | .node l _ r,k+1=>if k % 2=0 then In l (k / 2) else In r (k / 2)
def Up(t:Tr α)(N:Nat):Prop:=∀ m,m < N→In t m
theorem zJw(l r:Tr α)(x v:Option α)(n:Nat):(Tr.node l x r).set (n+1) v=if n % 2=0 then .node (l.set (n / 2) v) x r else .node l x (r.set (n / 2) v):=by
 have e:(Tr.node l x r).set (n+1) v=cond (Nat.beq (Nat.mod n 2) 0) (.node (l.set (Nat.div n 2) v) x r) (.node l x (r.set (Nat.div n 2) v)):=rfl
 rw[e]
 cases h:Nat.beq (Nat.mod n 2) 0 with
 | true=>rw[if_pos (show n % 2=0 from Nat.eq_of_beq_eq_true h)]; rfl
 | false=>rw[if_neg (show ¬ n % 2=0 from Nat.ne_of_beq_eq_false h)]; rfl
theorem zKw(l r:Tr α)(x:Option α)(n:Nat):(Tr.node l x r).get (n+1)=if n % 2=0 then l.get (n / 2) else r.get (n / 2):=by
 rw[zge]
 cases h:Nat.beq (Nat.mod n 2) 0 with
 | true=>rw[if_pos (show n % 2=0 from Nat.eq_of_beq_eq_true h)]; rfl
 | false=>rw[if_neg (show ¬ n % 2=0 from Nat.ne_of_beq_eq_false h)]; rfl
theorem in_set(t:Tr α)(n m:Nat)(v:Option α)(h:In t m):In (t.set n v) m:=by
 induction t generalizing n m with
 | nil=>exact h.elim
 | node l x r il ir=>
  cases n with
  | zero=>cases m <;> exact h
  | succ n=>
   rw[zJw]
   cases m with
   | zero=>split <;> exact trivial
   | succ m=>
    have h:(if m % 2=0 then In l (m / 2) else In r (m / 2)):=h
    split
    ·show (if m % 2=0 then In (l.set (n / 2) v) (m / 2) else In r (m / 2))
     split
     ·rename_i hm; rw[if_pos hm] at h; exact il _ _ h
     ·rename_i hm; rw[if_neg hm] at h; exact h
    ·show (if m % 2=0 then In l (m / 2) else In (r.set (n / 2) v) (m / 2))
     split
     ·rename_i hm; rw[if_pos hm] at h; exact h
     ·rename_i hm; rw[if_neg hm] at h; exact ir _ _ h
theorem up_set(t:Tr α)(n:Nat)(v:Option α)(h:Up t n):(t.set n v).get n=v∧In (t.set n v) n:=by
 induction t generalizing n with
 | nil=>
  cases n with
  | zero=>exact⟨rfl,trivial⟩
  | succ n=>exact (h 0 (Nat.succ_pos _)).elim
 | node l x r il ir=>
  cases n with
  | zero=>exact⟨rfl,trivial⟩
  | succ n=>
   rw[zJw]
   split
   ·rename_i hn
    have hl:Up l (n / 2):=fun m hm=>by
     have:=h (2 * m+1) (by omega)
     have:(if (2 * m) % 2=0 then In l (2 * m / 2) else In r (2 * m / 2)):=this
     rw[if_pos (by omega),show 2 * m / 2=m by omega] at this; exact this
    obtain⟨i1,i2⟩:=il _ hl
    refine⟨by rw[zKw,if_pos hn]; exact i1,?_⟩
    show (if n % 2=0 then In (l.set (n / 2) v) (n / 2) else _)
    rw[if_pos hn]; exact i2
   ·rename_i hn
    have hr:Up r (n / 2):=fun m hm=>by
     have:=h (2 * m+2) (by omega)
     have:(if (2 * m+1) % 2=0 then In l ((2 * m+1) / 2) else In r ((2 * m+1) / 2)):=this
     rw[if_neg (by omega),show (2 * m+1) / 2=m by omega] at this; exact this
    obtain⟨i1,i2⟩:=ir _ hr
    refine⟨by rw[zKw,if_neg hn]; exact i1,?_⟩
    show (if n % 2=0 then _ else In (r.set (n / 2) v) (n / 2))
    rw[if_neg hn]; exact i2
end Tr
class LpC where
 l:List (Nat × Lp)
instance (priority:=1) lp0:LpC:=⟨[]⟩
structure St [LpC] (H:Heap) (Γ:List (Nat × Blk)):Prop where
 fl:H.floor=0
 up:H.t.Up H.next
 nd:(Γ.map (·.1)).Nodup
 lt:∀ x ∈ Γ,x.1 < H.next
 get:∀ x ∈ Γ,(x.2.wr=true∨x.2.cells≠[])→H.get x.1=some x.2
 lps:H.lps=LpC.l
 lpn:∀ x ∈ (LpC.l:List (Nat × Lp)),x.1 < H.next
section st
variable[Orc][LpC]{P:Program}{H:Heap}{Γ Δ:List (Nat × Blk)}
theorem St.at(h:St H Γ)(i:Nat){p:Nat}{b:Blk}(hi:Γ[i]?=some (p,b))(hx:b.wr=true∨b.cells≠[]):H.get p=some b:=h.get (p,b) (List.mem_of_getElem? hi) hx
theorem St.sub(h:St H Γ)(hs:Δ.Sublist Γ):St H Δ:=
 ⟨h.fl,h.up,h.nd.sublist (hs.map _),fun x hx=>h.lt x (hs.subset hx),fun x hx=>h.get x (hs.subset hx),h.lps,h.lpn⟩
theorem St.take(h:St H Γ)(n:Nat):St H (Γ.take n):=h.sub (List.take_sublist n Γ)
theorem St.left(h:St H (Γ++Δ)):St H Γ:=h.sub (List.sublist_append_left Γ Δ)
theorem St.perm(h:St H Γ)(hp:Γ.Perm Δ):St H Δ:=
 ⟨h.fl,h.up,(hp.map _).nodup_iff.1 h.nd,fun x hx=>h.lt x (hp.mem_iff.2 hx),fun x hx=>h.get x (hp.mem_iff.2 hx),h.lps,h.lpn⟩
theorem zAt(H:Heap)(hu:H.t.Up H.next)(cs:List Value):(H.push cs).get H.next=some ⟨cs,true⟩:=(Tr.up_set _ _ _ hu).1
theorem zBt(H:Heap)(cs:List Value){i:Nat}(h:i≠H.next):(H.push cs).get i=H.get i:=Tr.get_set_other _ _ _ _ h
theorem St.push(h:St H Γ)(cs:List Value):St (H.push cs) (Γ++[(H.next,⟨cs,true⟩)]):=by
 refine⟨h.fl,fun m hm=>?_,?_,fun x hx=>?_,fun x hx hw=>?_,h.lps,fun x hx=>Nat.lt_succ_of_lt (h.lpn x hx)⟩
 ·by_cases he:m=H.next
  ·subst he; exact (Tr.up_set _ _ _ h.up).2
  ·have hm:m < H.next+1:=hm
   exact Tr.in_set _ _ _ _ (h.up m (by omega))
 ·rw[List.map_append,List.map_cons,List.map_nil,List.nodup_append]
  refine⟨h.nd,by simp,fun a ha b hb=>?_⟩
  obtain⟨x,hx,rfl⟩:=List.mem_map.1 ha
  have:=h.lt x hx
  simp at hb
  omega
 ·show x.1 < H.next+1
  rcases List.mem_append.1 hx with hx|hx
  ·have:=h.lt x hx; omega
  ·simp at hx; subst hx; exact Nat.lt_succ_self _
 ·rcases List.mem_append.1 hx with hx|hx
  ·have:=h.lt x hx
   rw[zBt H cs (by omega)]; exact h.get x hx hw
  ·simp at hx; subst hx; exact zAt H h.up cs
theorem zHa{cs:List Value}{K:Value→Heap→Prop}(h:St H Γ)(hk:∀ p H',St H' (Γ++[(p,⟨cs,true⟩)])→K (ptr p 0) H'):zrc cs H K:=hk _ _ (h.push cs)
theorem zsv{p o:Nat}{b:Blk}{v:Value}(h:H.get p=some b)(hv:b.cells[o]?=some v):zba (ptr p o) H=some (v,H):=by
 show zIc H (zNh H p o)=_
 unfold zNh; rw[h]; simp only[zYi,hv]; rfl
theorem zga{p o:Nat}{b:Blk}{v:Value}{K:Value→Heap→Prop}(h:St H Γ)(i:Nat)(hi:Γ[i]?=some (p,b))(hv:b.cells[o]?=some v)(hk:K v H):opW (zba (ptr p o) H) K:=by
 rw[zsv (h.at i hi (.inr fun e=>by rw[e] at hv; cases hv)) hv,zZr]; exact hk
theorem ztv{p o n:Nat}{b:Blk}(h:H.get p=some b)(hn:n≤b.cells.length - o):zpa n (ptr p o) H=some (.agg ((b.cells.drop o).take n).toArray,H):=by
 unfold zpa
 simp only[zVc]
 simp only[h,zlb,ztb,zJh,zFa]
 have:((b.cells.drop o).take n).length=n:=by rw[List.length_take,List.length_drop]; omega
 rw[this,Nat.beq_refl]
theorem zMa{p o n:Nat}{b:Blk}{cs:List Value}{K:Value→Heap→Prop}(h:St H Γ)(i:Nat)(hi:Γ[i]?=some (p,b))(hv:(b.cells.drop o).take n=cs)(hn:cs.length=n)(hp:0 < n)(hk:K (.agg cs.toArray) H):opW (zpa n (ptr p o) H) K:=by
 subst hv
 rw[ztv (h.at i hi (.inr fun e=>by rw[e] at hn; simp at hn; omega)) (by rw[List.length_take,List.length_drop] at hn; omega),zZr]; exact hk
theorem zSz{i:Nat}{p:Nat}{b b':Blk}(hi:Γ[i]?=some (p,b)):(Γ.set i (p,b')).map (·.1)=Γ.map (·.1):=by
 apply List.ext_getElem?
 intro j
 rw[List.getElem?_map,List.getElem?_map,List.getElem?_set]
 by_cases h:i=j
 ·subst h
  have:i < Γ.length:=(List.getElem?_eq_some_iff.1 hi).1
  rw[if_pos rfl,if_pos this,hi]; rfl
 ·rw[if_neg h]
theorem St.upd(h:St H Γ){i p:Nat}{b:Blk}(hi:Γ[i]?=some (p,b))(hx:b.wr=true∨b.cells≠[])(b':Blk):St (H.set p (some b')) (Γ.set i (p,b')):=by
 have hm:∀ x ∈ Γ.set i (p,b'),x=(p,b')∨(x ∈ Γ∧x.1≠p):=by
  intro x hx
  obtain⟨j,hj⟩:=List.mem_iff_getElem?.1 hx
  rw[List.getElem?_set] at hj
  by_cases he:i=j
  ·subst he
   rw[if_pos rfl] at hj
   split at hj
   ·cases hj; exact .inl rfl
   ·cases hj
  ·rw[if_neg he] at hj
   refine .inr ⟨List.mem_of_getElem? hj,fun e=>he ?_⟩
   have n1:(Γ.map (·.1))[i]?=some p:=by rw[List.getElem?_map,hi]; rfl
   have n2:(Γ.map (·.1))[j]?=some p:=by rw[List.getElem?_map,hj]; exact congrArg some e
   exact (List.getElem?_inj (by rw[List.length_map]; exact (List.getElem?_eq_some_iff.1 hi).1) h.nd).1 (n1.trans n2.symm)
 refine⟨h.fl,fun m hm=>Tr.in_set _ _ _ _ (h.up m hm),by rw[zSz hi]; exact h.nd,fun x hx=>?_,fun x hx hw=>?_,h.lps,h.lpn⟩
 ·rcases hm x hx with rfl|⟨hx,_⟩
  ·exact h.lt (p,b) (List.mem_of_getElem? hi)
  ·exact h.lt x hx
 ·rcases hm x hx with rfl|⟨hx,hne⟩
  ·exact Tr.get_set_same _ _ _ _ (h.at i hi ‹_›)
  ·exact (Tr.get_set_other _ _ _ _ hne).trans (h.get x hx hw)
theorem zas(h:St H Γ){i p o:Nat}{cs vs:List Value}(hi:Γ[i]?=some (p,⟨cs,true⟩))(hn:o+vs.length≤cs.length)(h1:vs.all oneCell=true) :
  ∃ H',zic H p o vs=some H'∧St H' (Γ.set i (p,⟨cs.take o++(vs++cs.drop (o+vs.length)),true⟩)):=by
 refine⟨_,?_,h.upd hi (.inl rfl) _⟩
 rw[zyf]
 rw[h.at i hi (.inl rfl)]
 have e:(Heap.mayWrite H p ⟨cs,true⟩ && (Nat.ble (o+zce vs) (zce cs) && zRi oneCell vs))=true:=by
  unfold Heap.mayWrite
  rw[h.fl]
  simp only[zFa,zpb,h1,zAb,Nat.zero_le,decide_true,Bool.and_true,hn]
 simp only
 rw[e]
 simp only[zQa,zlb,ztb,zFa]
theorem zNc{n p o:Nat}{v:Value}{cs:List Value}{K:Value→Heap→Prop}(h:St H Γ)(i:Nat)(hi:Γ[i]?=some (p,⟨cs,true⟩))(hl:(zya v).length=n)(hn:o+n≤cs.length)(h1:(zya v).all oneCell=true)
  (hk:∀ H',St H' (Γ.set i (p,⟨cs.take o++(zya v++cs.drop (o+n)),true⟩))→K undef H'):opW (zka n (ptr p o) v H) K:=by
 obtain⟨H',hw,hs⟩:=zas h (o:=o) (vs:=zya v) hi (by omega) h1
 unfold zka
 simp only[zFa,hl,Nat.beq_refl,if_true,hw,zZr]
 exact hk H' (by rw[← hl]; exact hs)
theorem zNa{p o:Nat}{v:Value}{cs cs':List Value}{K:Value→Heap→Prop}(h:St H Γ)(i:Nat)(hi:Γ[i]?=some (p,⟨cs,true⟩))(h1:oneCell v=true)(hn:o < cs.length)(hc:cs.set o v=cs')
  (hk:∀ H',St H' (Γ.set i (p,⟨cs',true⟩))→K undef H'):opW (zka 1 (ptr p o) v H) K:=by
 have hv:zya v=[v]:=by cases v <;> first|rfl|(cases h1; done)
 refine zNc h i hi (by rw[hv]; rfl) (by omega) (by rw[hv]; simp[h1]) fun H' hO=>hk H' ?_
 have e:cs.take o++(zya v++cs.drop (o+1))=cs':=by
  rw[hv,← hc]
  apply List.ext_getElem?
  intro j
  rw[List.getElem?_set]
  by_cases hj:j < o
  ·rw[List.getElem?_append_left (by rw[List.length_take]; omega),List.getElem?_take,if_pos hj,if_neg (by omega)]
  ·rw[List.getElem?_append_right (by rw[List.length_take]; omega),List.length_take,Nat.min_eq_left (by omega)]
   by_cases hj2:j=o
   ·subst hj2; simp[hn]
   ·rw[List.getElem?_append_right (by simp; omega),List.getElem?_drop,if_neg (Ne.symm hj2)]
    congr 1; simp; omega
 rw[e] at hO; exact hO
def zGd:Value→Bool
 | .bool _=>true
 | .int _ _=>true
 | .string _=>true
 | .pointer a=>match a with|none=>true|some a=>a.spot.isNone
 | .slice a _ _=>match a with|none=>true|some a=>a.spot.isNone
 | .map a=>a.isNone
 | .nilFunc=>true
 | .nilIface=>true
 | _=>false
def zcH:Fn→Bool
 | .func _=>true
 | _=>false
def zSa:Value→Bool
 | .iface _ v=>zGd v
 | .func f a b=>zcH f && (a.toList.all zGd && b.toList.all zGd)
 | v=>zGd v
theorem zhh{α:Type}{p:α→α→Bool}:∀ l:List α,(∀ x ∈ l,p x x=true)→zOn p l l=true
 | [],_=>rfl
 | x::l,h=>by
  show cond (p x x) (zOn p l l) false=true
  rw[h x (by simp)]; exact zhh l fun y hy=>h y (by simp[hy])
theorem zjp{a:Option Addr}(h:(match a with|none=>true|some a=>a.spot.isNone)=true):zEq a a=true:=by
 cases a with
 | none=>rfl
 | some a=>
  obtain⟨i,o,s⟩:=a
  cases s with
  | none=>show (Nat.beq i i && Nat.beq o o)=true; rw[Nat.beq_refl,Nat.beq_refl]; rfl
  | some _=>cases h
theorem zhe(sub:Value→Value→Bool){v:Value}(h:zGd v=true):zMk sub v v=true:=by
 cases v <;> first|(cases h; done)|skip
 case bool b=>cases b <;> rfl
 case int k n=>show (zRs k k && eqB n n)=true; rw[zRq,zug]; simp
 case string s=>show zOn zOy s.data.toList s.data.toList=true; exact zhh _ fun x _=>Nat.beq_refl _
 case pointer a=>exact zjp h
 case slice a n c=>show (zEq a a && (Nat.beq n n && Nat.beq c c))=true; rw[zjp h,Nat.beq_refl,Nat.beq_refl]; rfl
 case map a=>cases a with
  | none=>rfl
  | some _=>cases h
 case nilFunc=>rfl
 case nilIface=>rfl
theorem zbs{v:Value}(h:zSa v=true):zPy v v=true:=by
 cases v <;> first|exact zhe _ h|skip
 case iface t v=>show (Nat.beq t t && zMk _ v v)=true; rw[Nat.beq_refl,zhe _ h]; rfl
 case func f a b=>
  have h:(zcH f && (a.toList.all zGd && b.toList.all zGd))=true:=h
  rw[Bool.and_eq_true,Bool.and_eq_true,List.all_eq_true,List.all_eq_true] at h
  obtain⟨h0,h1,h2⟩:=h
  cases f <;> first|(cases h0; done)|skip
  rename_i g
  show (Nat.beq g g && (zOn _ a.toList a.toList && zOn _ b.toList b.toList))=true
  rw[Nat.beq_refl,zhh _ fun x hx=>zhe _ (h1 x hx),zhh _ fun x hx=>zhe _ (h2 x hx)]; rfl
theorem zMC{H H':Heap}{p:Nat}{b:Blk}(h:H.get p=some b)(h':H'.get p=some b)(hs:b.cells.all zSa=true):zcb H H' p=true:=by
 unfold zcb
 rw[h,h']
 simp only
 rw[zhh _ fun x hx=>zbs (List.all_eq_true.1 hs x hx)]
 cases b.wr <;> rfl
theorem zNC{s:Nat→Bool}:zeb s (zJa []):=rfl
theorem zTz{s:Nat→Bool}{p o:Nat}{l:List Value}(hp:s p=true)(h:zeb s (zJa l)):zeb s (zJa (ptr p o::l)):=by
 have e:zJa (ptr p o::l)=p::zJa l:=rfl
 unfold zeb at *
 rw[e,zpb,List.all_cons,hp]
 rw[zpb] at h
 exact h
theorem same_at{H H':Heap}{Δ:List (Nat × Blk)}{p o:Nat}{b:Blk}(h:St H Γ)(i:Nat)(hi:Γ[i]?=some (p,b))(h':St H' Δ)(j:Nat)(hj:Δ[j]?=some (p,b))(hs:b.cells.all zSa=true)(hx:b.wr=true∨b.cells≠[]:=by exact .inl rfl):zeb (zcb H H') (zJa [ptr p o]):=
 zTz (zMC (h.at i hi hx) (h'.at j hj hx) hs) zNC
theorem zaa{r:Option Value}{v:Value}{K:Value→Prop}(h:r=some v)(hk:K v):opP r K:=⟨v,h,hk⟩
theorem zCa{r:R}{v:Value}{H':Heap}{K:Value→Heap→Prop}(h:r=some (v,H'))(hk:K v H'):opW r K:=⟨v,H',h,hk⟩
theorem zUz{p:Prop}[Decidable p]{A B:Prop}(h:p)(hA:A):wIf (.bool (decide p)) A B:=by rw[decide_eq_true h,zIw]; exact hA
theorem zVz{p:Prop}[Decidable p]{A B:Prop}(h:¬ p)(hB:B):wIf (.bool (decide p)) A B:=by rw[decide_eq_false h,zzt]; exact hB
theorem zNb{p:Prop}[Decidable p]{a b:Value}(h:p):zla (.bool (decide p)) a b=some a:=by rw[decide_eq_true h]; rfl
theorem zuc{p:Prop}[Decidable p]{a b:Value}(h:¬ p):zla (.bool (decide p)) a b=some b:=by rw[decide_eq_false h]; rfl
theorem zKa{b:Bool}{A B:Prop}(h:b=true)(hA:A):cond b A B:=by rw[h]; exact hA
theorem zeF{b:Bool}{A B:Prop}(h:b=false)(hB:B):cond b A B:=by rw[h]; exact hB
theorem zYa{t:TypeId}{c:Bool}{a b:Int}(h1:-9223372036854775808≤a+b)(h2:a+b≤9223372036854775807):(zma P .add t c).f (.int .i64 a) (.int .i64 b)=some (.int .i64 (a+b)):=by rw[zPz,zun h1 h2]
theorem zub{t:TypeId}{c:Bool}{a b:Int}(h1:-9223372036854775808≤a - b)(h2:a - b≤9223372036854775807):(zma P .sub t c).f (.int .i64 a) (.int .i64 b)=some (.int .i64 (a - b)):=by rw[zQz,zun h1 h2]
theorem zQe{t:TypeId}{c:Bool}{a b:Int}(h1:-9223372036854775808≤a * b)(h2:a * b≤9223372036854775807):(zma P .mul t c).f (.int .i64 a) (.int .i64 b)=some (.int .i64 (a * b)):=by rw[zRz,zun h1 h2]
theorem zQx{H:Heap}{k:IntKind}{a b:Int}:zIc H (zaC [.int k a,.int k b])=some (.int k (min a b),H):=by rw[zcF]; rfl
theorem zOC{H:Heap}{k:IntKind}{a b:Int}:zIc H (zJE [.int k a,.int k b])=some (.int k (max a b),H):=by rw[zdF]; rfl
theorem zva{A:(List Value→Heap→Prop)→Prop}{B:List Value→Heap→Prop}(J:List Value→Heap→Prop)(h1:A J)(h2:∀ l H,J l H→B l H):zQb A B:=⟨J,h1,h2⟩
theorem zHd{A:(List Value→Heap→Prop)→Prop}{B:List Value→Heap→Prop}(h1:A B):zQb A B:=⟨B,h1,fun _ _ h=>h⟩
end st
end Go.Ab
namespace Go.Ab
open Go
local instance:Base:=⟨fun _=>none,0⟩
set_option linter.unusedVariables false
set_option linter.unusedSectionVars false
section
variable[Orc][LpC]{P:Program}{H:Heap}{Γ Δ:List (Nat × Blk)}{K:Value→Heap→Prop}
theorem zsc{b:Bool}{A B:Prop}(h:b=true)(hA:A):wIf (.bool b) A B:=by rw[h,zIw]; exact hA
theorem zXa{b:Bool}{A B:Prop}(h:b=false)(hB:B):wIf (.bool b) A B:=by rw[h,zzt]; exact hB
theorem zPC(n:Nat)(v:Value):repl n [v]=List.replicate n v:=zwg n v
theorem zbb{r:R}{n c:Nat}{cs:List Value}(h:St H Γ)(hr:r=some (sl H.next 0 n c,H.push cs))(hk:∀ p H',St H' (Γ++[(p,⟨cs,true⟩)])→K (sl p 0 n c) H'):opW r K:=
 zCa hr (hk _ _ (h.push cs))
theorem zWz{size bytes:Nat}{z:List Value}{k k':IntKind}{n:Nat}(h1:n * bytes≤281474976710656)(h2:n≤9223372036854775807) :
  zrk size bytes z (.int k n) (.int k' n) H=some (sl H.next 0 n (2 * size+1),H.push (repl n z)):=by
 unfold zrk
 simp only[Int.toNat_natCast]
 rw[if_pos (by omega),if_pos (by omega),if_pos (by rw[Bool.and_eq_true,zAb,zAb]; exact⟨decide_eq_true h1,decide_eq_true h2⟩)]
 have:eqB (n:Int) n=true:=by rw[zug]; simp
 rw[this]; rfl
theorem zuv{size bytes:Nat}{z:List Value}{k k':IntKind}{n:Nat}(h:St H Γ)(h1:n * bytes≤281474976710656)(h2:n≤9223372036854775807)
  (hk:∀ p H',St H' (Γ++[(p,⟨repl n z,true⟩)])→K (sl p 0 n (2 * size+1)) H'):opW (zrk size bytes z (.int k n) (.int k' n) H) K:=
 zbb h (zWz h1 h2) hk
def zhb(v:Value)(cs:List Value):List (Nat × Blk):=match v with
 | .slice (some a) _ _=>[(a.block,⟨cs,true⟩)]
 | _=>[]
def Own(size:Nat)(v:Value)(n:Nat)(cs:List Value):Prop:=
 (v=zBa∧n=0∧cs=[])∨(∃ p,(v=sl p 0 n (2 * size)∨v=sl p 0 n (2 * size+1))∧cs.length=n * size)
theorem Own.nil{size:Nat}:Own size zBa 0 []:=.inl ⟨rfl,rfl,rfl⟩
theorem Own.len{size n:Nat}{v:Value}{cs:List Value}(h:Own size v n cs):cs.length=n * size:=by
 rcases h with⟨_,rfl,rfl⟩|⟨p,_,h⟩
 ·simp
 ·exact h
theorem Own.lenSl{size n:Nat}{v:Value}{cs:List Value}(h:Own size v n cs):lenSl v H=some (.int .i64 n,H):=by
 rcases h with⟨rfl,rfl,_⟩|⟨p,rfl|rfl,_⟩ <;> rfl
theorem St.erase(h:St H Γ){i p:Nat}{b:Blk}(hi:Γ[i]?=some (p,b)):St (H.set p none) (Γ.eraseIdx i):=by
 have hm:∀ x ∈ Γ.eraseIdx i,x ∈ Γ∧x.1≠p:=by
  intro x hx
  refine⟨List.mem_of_mem_eraseIdx hx,fun e=>?_⟩
  obtain⟨j,hj⟩:=List.mem_iff_getElem?.1 hx
  rw[List.getElem?_eraseIdx] at hj
  have n1:(Γ.map (·.1))[i]?=some p:=by rw[List.getElem?_map,hi]; rfl
  have hlt:i < (Γ.map (·.1)).length:=by rw[List.length_map]; exact (List.getElem?_eq_some_iff.1 hi).1
  split at hj
  ·rename_i hji
   have n2:(Γ.map (·.1))[j]?=some p:=by rw[List.getElem?_map,hj]; exact congrArg some e
   have:=(List.getElem?_inj hlt h.nd).1 (n1.trans n2.symm); omega
  ·rename_i hji
   have n2:(Γ.map (·.1))[j+1]?=some p:=by rw[List.getElem?_map,hj]; exact congrArg some e
   have:=(List.getElem?_inj hlt h.nd).1 (n1.trans n2.symm); omega
 exact⟨h.fl,fun m hm=>Tr.in_set _ _ _ _ (h.up m hm),h.nd.sublist ((List.eraseIdx_sublist Γ i).map _),fun x hx=>h.lt x (hm x hx).1,
  fun x hx hw=>(Tr.get_set_other _ _ _ _ (hm x hx).2).trans (h.get x (hm x hx).1 hw),h.lps,h.lpn⟩
theorem zQC{size n p o:Nat}{b:Blk}{c:Nat}(h:H.get p=some b)(hn:o+n * size≤b.cells.length)(hc:c=n):zSi H size n (sl p o c 0)=some ((b.cells.drop o).take (n * size)):=by
 unfold zSi
 simp only
 split
 ·rename_i h0
  have h0:=Nat.eq_of_beq_eq_true h0
  subst h0; simp
 ·rw[zVc]
  rw[h]
  simp only[zJh,zlb,ztb,zFa]
  have:((b.cells.drop o).take (n * size)).length=n * size:=by rw[List.length_take,List.length_drop]; omega
  rw[this,Nat.beq_refl]
theorem zcs{size n p o c:Nat}{b:Blk}(h:H.get p=some b)(hn:o+n * size≤b.cells.length):zSi H size n (sl p o n c)=some ((b.cells.drop o).take (n * size)):=zQC h hn rfl
theorem zaj{n bytes:Nat}(h:n * bytes≤140737488355328)(h2:n≤9223372036854775807):zzr n bytes=true:=by
 unfold zzr
 rw[Bool.and_eq_true,zAb,zAb]
 refine⟨decide_eq_true ?_,decide_eq_true h2⟩
 rw[Nat.mul_assoc]; omega
theorem zRx{size bytes n m:Nat}{v x:Value}{cs new:List Value}(h:St H (Γ++zhb v cs))(hv:Own size v n cs)(hp:0 < size)(hm:lenA x=some m)(hx:zSi H size m x=some new)(hm0:0 < m)
  (hr:(n+m) * bytes≤140737488355328) (hr2:n+m≤9223372036854775807) (h1:new.all oneCell=true) (hlen:new.length=m * size)
  (hk:∀ p H',St H' (Γ++[(p,⟨cs++new,true⟩)])→Own size (sl p 0 (n+m) (2 * size)) (n+m) (cs++new)→K (sl p 0 (n+m) (2 * size)) H'):opW (zEa size bytes v x H) K:=by
 have own':∀ p,Own size (sl p 0 (n+m) (2 * size)) (n+m) (cs++new):=fun p=>.inr ⟨p,.inl rfl,by rw[List.length_append,hlen,hv.len,Nat.add_mul]⟩
 unfold zEa
 simp only[hm,hx]
 have hmb:Nat.beq m 0=false:=by
  cases hb:Nat.beq m 0 with
  | false=>rfl
  | true=>have:=Nat.eq_of_beq_eq_true hb; omega
 rcases hv with⟨rfl,rfl,rfl⟩|⟨p,hv,hl⟩
 ·unfold zLc
  simp only[hmb,Bool.false_eq_true,if_false]
  rw[if_pos (zaj (by simpa using hr) (by omega))]
  refine zCa (show zob new m (2 * size) H=some (sl H.next 0 m (2 * size),H.push new) from rfl) ?_
  have h:St H Γ:=by simpa [zhb] using h
  have:=hk _ _ (h.push new) (own' _)
  rw[Nat.zero_add] at this; exact this
 ·have hΓ:zhb v cs=[(p,⟨cs,true⟩)]:=by rcases hv with rfl|rfl <;> rfl
  rw[hΓ] at h
  have hi:(Γ++[(p,(⟨cs,true⟩:Blk))])[Γ.length]?=some (p,⟨cs,true⟩):=by simp
  have hget:=h.at _ hi (.inl rfl)
  have her:=h.erase hi
  have he:(Γ++[(p,(⟨cs,true⟩:Blk))]).eraseIdx Γ.length=Γ:=by
   rw[List.eraseIdx_append_of_length_le (Nat.le_refl _)]; simp
  rw[he] at her
  unfold zLc
  rcases hv with rfl|rfl
  ·simp only[hmb,Bool.false_eq_true,if_false]
   rw[if_pos (zaj hr hr2)]
   have hodd:Nat.beq (2 * size) (2 * size+1)=false:=by
    cases hb:Nat.beq (2 * size) (2 * size+1) with
    | false=>rfl
    | true=>have:=Nat.eq_of_beq_eq_true hb; omega
   rw[hodd]
   simp only[Bool.false_eq_true,if_false,Nat.beq_refl,if_true]
   unfold zCe
   rw[hget]
   have e:(Heap.mayWrite H p ⟨cs,true⟩ && (Nat.ble (0+n * size) (zce cs) && zRi oneCell new))=true:=by
    unfold Heap.mayWrite
    rw[h.fl,zFa,zpb,h1,zAb,zAb,decide_eq_true (by omega:0+n * size≤cs.length)]
    simp
   simp only[e]
   have e2:zhg (zXj (takeN cs (0+n * size)) 0) new=cs++new:=by
    rw[zQa,ztb,zlb,List.take_of_length_le (by omega)]; rfl
   rw[e2]
   exact zCa (show zob (cs++new) (n+m) (2 * size) (H.set p none)=some (sl H.next 0 (n+m) (2 * size),(H.set p none).push (cs++new)) from rfl) (hk _ _ (her.push _) (own' _))
  ·simp only[hmb,Bool.false_eq_true,if_false]
   rw[if_pos (zaj hr hr2)]
   simp only[Nat.beq_refl,if_true]
   unfold zUc
   have e3:(if Nat.beq n 0=true then some [] else zhc H p 0 (n * size))=some cs:=by
    split
    ·rename_i h0
     have h0:=Nat.eq_of_beq_eq_true h0
     subst h0
     have:cs=[]:=List.length_eq_zero_iff.1 (by omega)
     rw[this]
    ·rw[zVc]
     rw[hget]
     simp only[zJh,zlb,ztb,zFa,List.drop_zero]
     rw[List.take_of_length_le (by omega),hl,Nat.beq_refl]
   rw[e3]
   simp only[zQa]
   have hΓ0:St H Γ:=h.left
   exact zCa (show zob (cs++new) (n+m) (2 * size) H=some (sl H.next 0 (n+m) (2 * size),H.push (cs++new)) from rfl) (hk _ _ (hΓ0.push _) (own' _))
end
end Go.Ab
namespace Go.Ab
open Go Go.ChangeShapes Go.WideShapes
set_option linter.unusedVariables false
inductive ShpL (P:Program):List TypeId→Nat→List Value→List (List Value)→Prop
 | nil {N:Nat}:ShpL P [] N [] []
 | bool {t:TypeId} {ts:List TypeId} {N:Nat} {c:List Value} {b:List (List Value)} (v:Bool):P.underlying t=some .bool→ShpL P ts N c b→ShpL P (t::ts) N (.bool v::c) b
 | int {t:TypeId} {ts:List TypeId} {N:Nat} {c:List Value} {b:List (List Value)} {k:IntKind} (v:Int):P.underlying t=some (.int k)→(Lit.int k v).wf=true→ShpL P ts N c b→ShpL P (t::ts) N (.int k v::c) b
 | str {t:TypeId} {ts:List TypeId} {N:Nat} {c:List Value} {b:List (List Value)} (v:ByteArray):P.underlying t=some .string→v.size≤maxLen→ShpL P ts N c b→ShpL P (t::ts) N (.string v::c) b
 | slNil {t e:TypeId} {ts:List TypeId} {N:Nat} {c:List Value} {b:List (List Value)}:P.underlying t=some (.slice e)→ShpL P ts N c b→ShpL P (t::ts) N (.slice none 0 0::c) b
 | sl {t e:TypeId} {ts:List TypeId} {N:Nat} {c cells:List Value} {b bs:List (List Value)} (len:Nat):P.underlying t=some (.slice e)→len≤maxLen→cells.length=len * P.cellsOf e→ShpL P (List.replicate len e) (N+1) cells bs→ShpL P ts (N+1+bs.length) c b →
   ShpL P (t::ts) N (.slice (some ⟨N,0,none⟩) len (2 * P.cellsOf e)::c) (cells::(bs++b))
 | struct {t:TypeId} {fs:Array Field} {ts:List TypeId} {N:Nat} {c:List Value} {b:List (List Value)}:P.underlying t=some (.struct fs)→ShpL P (fs.toList.map (·.type)++ts) N c b→ShpL P (t::ts) N c b
 | array {t e:TypeId} {n:Nat} {ts:List TypeId} {N:Nat} {c:List Value} {b:List (List Value)}:P.underlying t=some (.array n e)→ShpL P (List.replicate n e++ts) N c b→ShpL P (t::ts) N c b
theorem ShpL.append{P:Program}{ts ts':List TypeId}{N:Nat}{c c':List Value}{b b':List (List Value)}(h:ShpL P ts N c b)(h':ShpL P ts' (N+b.length) c' b'):ShpL P (ts++ts') N (c++c') (b++b'):=by
 induction h with
 | nil=>exact h'
 | bool v hu _ ih=>exact .bool v hu (ih h')
 | int v hu hw _ ih=>exact .int v hu hw (ih h')
 | str v hu hw _ ih=>exact .str v hu hw (ih h')
 | slNil hu _ ih=>exact .slNil hu (ih h')
 | @sl t e ts N c cells b bs len hu hm hl h1 h2 _ ih=>
  have e1:(cells::(bs++b))++b'=cells::(bs++(b++b')):=by simp
  rw[e1]
  refine .sl len hu hm hl h1 (ih ?_)
  simp only[List.length_cons,List.length_append] at h'
  rw[show N+1+bs.length+b.length=N+(bs.length+b.length+1) by omega]; exact h'
 | struct hu _ ih=>refine .struct hu ?_; have:=ih h'; rwa [List.append_assoc] at this
 | array hu _ ih=>refine .array hu ?_; have:=ih h'; rwa [List.append_assoc] at this
def zds(P:Program):List Field→Nat→Bool
 | [],_=>true
 | f::fs,o=>Nat.beq f.offset o && zds P fs (o+P.cellsOf f.type)
def zBG(P:Program):List Field→Nat
 | []=>0
 | f::fs=>P.cellsOf f.type+zBG P fs
def supB(P:Program):Nat→TypeId→Bool
 | 0,_=>false
 | d+1,t=>match P.underlying t with
  | some .bool=>Nat.beq (P.cellsOf t) 1
  | some (.int _)=>Nat.beq (P.cellsOf t) 1
  | some .string=>Nat.beq (P.cellsOf t) 1
  | some (.slice e)=>Nat.beq (P.cellsOf t) 1 && (Nat.blt 0 (P.cellsOf e) && supB P d e)
  | some (.struct fs)=>zds P fs.toList 0 && (Nat.beq (zBG P fs.toList) (P.cellsOf t) && fs.toList.all fun f=>supB P d f.type)
  | some (.array n e)=>Nat.beq (n * P.cellsOf e) (P.cellsOf t) && supB P d e
  | _=>false
def zuo(N:Nat)(ls:List (Nat × Nat × Nat)):Loc:=fun id=>if N≤id then ls[id - N]? else none
theorem zbj{N:Nat}{l1 l2:List (Nat × Nat × Nat)}:∀ id x,zuo N l1 id=some x→zuo N (l1++l2) id=some x:=by
 intro id x h
 unfold zuo at h ⊢
 split at h
 ·rename_i hn
  rw[if_pos hn,List.getElem?_append_left (List.getElem?_eq_some_iff.1 h).1]; exact h
 ·cases h
theorem zOm{N:Nat}{l1 l2:List (Nat × Nat × Nat)}:∀ id x,zuo (N+l1.length) l2 id=some x→zuo N (l1++l2) id=some x:=by
 intro id x h
 unfold zuo at h ⊢
 split at h
 ·rename_i hn
  rw[if_pos (by omega),List.getElem?_append_right (by omega)]
  rw[show id - N - l1.length=id - (N+l1.length) by omega]; exact h
 ·cases h
def BlkAt(σ:Loc)(w:World)(b:List Value)(x:Nat × Nat × Nat):Prop:=
 b≠[]→∃ arr ty fr,w.heap[x.1]?=some (.cells arr ty fr)∧arr.size=x.2.2∧x.2.1+b.length≤x.2.2∧VRs σ b ((arr.toList.drop x.2.1).take b.length)
structure Opened (P:Program) (w:World) (ts:List TypeId) (N:Nat) (cs as:List Value) (bs:List (List Value)) (ls:List (Nat × Nat × Nat)):Prop where
 shp:ShpL P ts N as bs
 len:ls.length=bs.length
 vr:VRs (zuo N ls) as cs
 at':∀ (i:Nat) (b:List Value) (x:Nat × Nat × Nat),bs[i]?=some b→ls[i]?=some x→BlkAt (zuo N ls) w b x
theorem BlkAt.mono{σ τ:Loc}{w:World}{b:List Value}{x:Nat × Nat × Nat}(hm:∀ id x,σ id=some x→τ id=some x)(h:BlkAt σ w b x):BlkAt τ w b x:=fun hb=>by
 obtain⟨arr,ty,fr,h1,h2,h3,h4⟩:=h hb
 exact⟨arr,ty,fr,h1,h2,h3,h4.mono hm⟩
section
variable{H:Type}{enc:TypeId × Value→H}{P:Program}{w:World}
theorem Opened.none{N:Nat}{w:World}:Opened P w [] N [] [] [] []:=⟨.nil,rfl,.nil,fun i b x h=>by simp at h⟩
theorem Opened.append{ts ts':List TypeId}{N:Nat}{cs cs' as as':List Value}{bs bs':List (List Value)}{ls ls':List (Nat × Nat × Nat)}(h:Opened P w ts N cs as bs ls)(h':Opened P w ts' (N+bs.length) cs' as' bs' ls') :
  Opened P w (ts++ts') N (cs++cs') (as++as') (bs++bs') (ls++ls'):=by
 have hr:∀ id x,zuo (N+bs.length) ls' id=some x→zuo N (ls++ls') id=some x:=by rw[← h.len]; exact zOm
 refine⟨h.shp.append h'.shp,by rw[List.length_append,List.length_append,h.len,h'.len],(h.vr.mono zbj).append (h'.vr.mono hr),fun i b x hb hx=>?_⟩
 by_cases hi:i < bs.length
 ·rw[List.getElem?_append_left hi] at hb
  rw[List.getElem?_append_left (by rw[h.len]; exact hi)] at hx
  exact (h.at' i b x hb hx).mono zbj
 ·rw[List.getElem?_append_right (by omega)] at hb
  rw[List.getElem?_append_right (by rw[h.len]; omega),h.len] at hx
  exact (h'.at' _ b x hb hx).mono hr
abbrev RdT(enc:TypeId × Value→H)(P:Program)(w:World)(t:TypeId)(cs:List Value):Prop:=∃ fuel x,DataW.trod enc P w 0 (fun _=>true) true fuel t cs=some x
theorem zes{e:TypeId}{sz:Nat}(hone:∀ cs,RdT enc P w e cs→cs.length=sz→∀ N,∃ as bs ls,Opened P w [e] N cs as bs ls):∀ (n:Nat) (L:List Value),L.length=n * sz→(∀ i,i < n→RdT enc P w e ((L.drop (i * sz)).take sz))→∀ N,∃ as bs ls,Opened P w (List.replicate n e) N L as bs ls
 | 0,L,hl,_,N=>by
  have:L=[]:=List.length_eq_zero_iff.1 (by omega)
  subst this
  exact⟨_,_,_,Opened.none⟩
 | n+1,L,hl,h,N=>by
  have hl':sz≤L.length:=by rw[hl,Nat.succ_mul]; omega
  obtain⟨as,bs,ls,h1⟩:=hone (L.take sz) (by have:=h 0 (by omega); simpa using this) (by rw[List.length_take]; omega) N
  obtain⟨as',bs',ls',h2⟩:=zes hone n (L.drop sz) (by rw[List.length_drop,hl,Nat.succ_mul]; omega) (fun i hi=>by
   have:=h (i+1) (by omega)
   rw[List.drop_drop]
   rwa [show (i+1) * sz=sz+i * sz by rw[Nat.succ_mul]; omega] at this) (N+bs.length)
  have:=h1.append h2
  rw[List.take_append_drop] at this
  exact⟨_,_,_,this⟩
theorem zkp:∀ (fs:List Field) (o:Nat) (cs:List Value),zds P fs o=true→cs.length=o+zBG P fs→(∀ f ∈ fs,∀ ds,RdT enc P w f.type ds→ds.length=P.cellsOf f.type→∀ N,∃ as bs ls,Opened P w [f.type] N ds as bs ls) →
  (∀ f ∈ fs,RdT enc P w f.type ((cs.drop f.offset).take (P.cellsOf f.type)))→∀ N,∃ as bs ls,Opened P w (fs.map (·.type)) N (cs.drop o) as bs ls
 | [],o,cs,_,hl,_,_,N=>by
  have:cs.drop o=[]:=List.drop_eq_nil_of_le (by have:zBG P []=0:=rfl; omega)
  rw[this]
  exact⟨_,_,_,Opened.none⟩
 | f::fs,o,cs,hc,hl,hone,h,N=>by
  have hc:(Nat.beq f.offset o && zds P fs (o+P.cellsOf f.type))=true:=hc
  rw[Bool.and_eq_true] at hc
  have ho:=Nat.eq_of_beq_eq_true hc.1
  have hs:zBG P (f::fs)=P.cellsOf f.type+zBG P fs:=rfl
  rw[hs] at hl
  have h0:=h f (by simp)
  rw[ho] at h0
  obtain⟨as,bs,ls,h1⟩:=hone f (by simp) _ h0 (by rw[List.length_take,List.length_drop]; omega) N
  obtain⟨as',bs',ls',h2⟩:=zkp fs (o+P.cellsOf f.type) cs hc.2 (by omega) (fun g hg=>hone g (by simp[hg])) (fun g hg=>h g (by simp[hg])) (N+bs.length)
  have:=h1.append h2
  rw[← List.drop_drop,List.take_append_drop] at this
  exact⟨_,_,_,this⟩
theorem zRC{a:Addr}{v:Value}{w:World}(h:w.cell? a=some v):∃ arr ty fr,w.heap[a.block]?=some (.cells arr ty fr)∧a.spot=none∧arr[a.off]?=some v:=by
 unfold World.cell? at h
 split at h
 ·rename_i arr ty fr hh
  split at h
  ·cases h
  ·rename_i hs
   refine⟨arr,ty,fr,hh,?_,h⟩
   cases hsp:a.spot with
   | none=>rfl
   | some _=>rw[hsp] at hs; exact absurd rfl hs
 ·cases h
theorem zvo:∀ (d:Nat) (t:TypeId) (cs:List Value),supB P d t=true→RdT enc P w t cs→cs.length=P.cellsOf t→∀ N,∃ as bs ls,Opened P w [t] N cs as bs ls
 | 0,_,_,hs,_,_,_=>by cases hs
 | d+1,t,cs,hs,⟨fuel,x,h⟩,hlen,N=>by
  have hs0:=hs
  unfold supB at hs
  split at hs <;> try (cases hs; done)
  ·rename_i hu
   obtain⟨b,rfl,_⟩:=DataW.trod_bool hu h
   exact⟨_,_,[],⟨.bool b hu .nil,rfl,.bool b .nil,fun i b x hb=>by simp at hb⟩⟩
  ·rename_i k hu
   obtain⟨n,rfl,_,hw⟩:=DataW.trod_int hu h
   exact⟨_,_,[],⟨.int n hu hw .nil,rfl,.int k n .nil,fun i b x hb=>by simp at hb⟩⟩
  ·rename_i hu
   obtain⟨s,rfl,_,hw⟩:=DataW.trod_string hu h
   exact⟨_,_,[],⟨.str s hu hw .nil,rfl,.string s .nil,fun i b x hb=>by simp at hb⟩⟩
  ·rename_i e hu
   simp only[Bool.and_eq_true,blt_eq,decide_eq_true_eq] at hs
   obtain⟨_,hpos,hse⟩:=hs
   rcases Go.Deep.open_slice hu h with⟨rfl,_⟩|⟨a,len,cap,m,n,D,Pl,rfl,hb,hl,hm,hmm,_,hel⟩
   ·exact⟨_,_,[],⟨.slNil hu .nil,rfl,.slNil .nil,fun i b x hb=>by simp at hb⟩⟩
   ·simp only[if_true] at hmm
    subst hmm
    by_cases hc0:m=0
    ·-- nothing there at all
     subst hc0
     have hl0:len=0:=by omega
     subst hl0
     refine⟨_,_,[(0,0,0)],⟨.sl 0 hu (Nat.zero_le _) (by simp) .nil .nil,rfl,?_,fun i b x hb hx=>?_⟩⟩
     ·exact .slOpen N 0 0 (P.cellsOf e) 0 0 0 0 a (by simp[zuo]) hpos (Nat.le_refl _) (.inr ⟨rfl,rfl⟩) .nil
     ·cases i with
      | zero=>simp at hb; subst hb; intro hne; exact absurd rfl hne
      | succ i=>simp at hb
    ·-- the block
     have hcell:∀ i,i < m→∃ cs',w.cells? 0 (a.add (i * P.cellsOf e)) (P.cellsOf e)=some cs'∧RdT enc P w e cs':=fun i hi=>by
      obtain⟨cs',h1,h2⟩:=hel i hi
      exact⟨cs',h1,_,_,h2⟩
     obtain⟨cs0,hcs0,_⟩:=hcell 0 (by omega)
     obtain⟨_,hcl0,hat0⟩:=World.cells?_some hcs0
     have hv0:=hat0 0 hpos
     obtain⟨v0,hv0'⟩:∃ v,cs0[0]?=some v:=⟨_,List.getElem?_eq_getElem (by omega)⟩
     rw[hv0'] at hv0
     obtain⟨arr,ty,fr,hh,hsp,_⟩:=zRC hv0
     have e0:((a.add (0 * P.cellsOf e)).add 0)=a:=by simp[Addr.add]
     rw[e0] at hh hsp
     have hget:∀ i j,i < m→j < P.cellsOf e→∃ cs',w.cells? 0 (a.add (i * P.cellsOf e)) (P.cellsOf e)=some cs'∧cs'[j]?=arr[a.off+(i * P.cellsOf e+j)]?:=by
      intro i j hi hj
      obtain⟨cs',h1,_⟩:=hcell i hi
      obtain⟨_,h2,h3⟩:=World.cells?_some h1
      refine⟨cs',h1,?_⟩
      rw[← h3 j hj,Go.Deep.add_add]
      unfold World.cell?
      have hb2:(a.add (i * P.cellsOf e+j)).block=a.block:=by unfold Addr.add; split <;> rfl
      have ho2:(a.add (i * P.cellsOf e+j)).off=a.off+(i * P.cellsOf e+j):=by unfold Addr.add; split <;> simp_all
      have hs2:(a.add (i * P.cellsOf e+j)).spot=none:=by unfold Addr.add; split <;> first|exact hsp|rfl
      rw[hb2,hh]
      simp only[hs2,ho2,Option.isSome_none,Bool.false_eq_true,if_false]
     have hfit:a.off+m * P.cellsOf e≤arr.size:=by
      obtain⟨cs',h1,h2⟩:=hget (m - 1) (P.cellsOf e - 1) (by omega) (by omega)
      obtain⟨_,h3,_⟩:=World.cells?_some h1
      rw[List.getElem?_eq_getElem (by omega)] at h2
      have:=(Array.getElem?_eq_some_iff.1 h2.symm).1
      have e1:(m - 1) * P.cellsOf e+P.cellsOf e=m * P.cellsOf e:=by
       rw[← Nat.succ_mul]; congr 1; omega
      omega
     have hle:=Nat.mul_le_mul_right (P.cellsOf e) hl
     let L:=(arr.toList.drop a.off).take (len * P.cellsOf e)
     have hL:L.length=len * P.cellsOf e:=by simp only[L,List.length_take,List.length_drop,Array.length_toList]; omega
     have hLi:∀ i,i < len→RdT enc P w e ((L.drop (i * P.cellsOf e)).take (P.cellsOf e)):=by
      intro i hi
      obtain⟨cs',h1,h2⟩:=hcell i (by omega)
      obtain⟨_,h3,_⟩:=World.cells?_some h1
      have hie:(i+1) * P.cellsOf e≤len * P.cellsOf e:=Nat.mul_le_mul_right _ hi
      rw[Nat.succ_mul] at hie
      have:(L.drop (i * P.cellsOf e)).take (P.cellsOf e)=cs':=by
       apply List.ext_getElem?
       intro j
       rw[List.getElem?_take]
       split
       ·rename_i hj
        obtain⟨cs'',g1,g2⟩:=hget i j (by omega) hj
        rw[h1] at g1; cases g1
        rw[g2,List.getElem?_drop]
        simp only[L,List.getElem?_take,List.getElem?_drop]
        rw[if_pos (by omega)]
        simp
       ·rename_i hj
        symm; apply List.getElem?_eq_none; omega
      rw[this]; exact h2
     obtain⟨as,bs,ls,ho⟩:=zes (fun ds hr hl' N=>zvo d e ds hse hr hl' N) len L hL hLi (N+1)
     have hasl:as.length=len * P.cellsOf e:=by rw[ho.vr.length,hL]
     have hrt:∀ id x,zuo (N+1) ls id=some x→zuo N ((a.block,a.off,arr.size)::ls) id=some x:=fun id x hx=>zOm (l1:=[(a.block,a.off,arr.size)]) id x hx
     refine⟨_,_,(a.block,a.off,arr.size)::ls,⟨.sl len hu (by omega) hasl ho.shp .nil,by simp[ho.len],?_,fun i b x hb hx=>?_⟩⟩
     ·refine .slOpen N 0 len (P.cellsOf e) m a.block a.off arr.size a (by simp[zuo]) hpos hl (.inl ⟨?_,by omega⟩) .nil
      obtain⟨bk,of,sp⟩:=a
      simp only at hsp
      subst hsp
      simp
     ·cases i with
      | zero=>
       simp at hb hx
       subst hb; subst hx
       intro _
       refine⟨arr,ty,fr,hh,rfl,by rw[hasl]; show a.off+_≤arr.size; omega,?_⟩
       rw[hasl]
       exact ho.vr.mono hrt
      | succ i=>
       simp at hb hx
       exact (ho.at' i b x hb hx).mono hrt
  ·rename_i fs hu
   rw[Bool.and_eq_true,Bool.and_eq_true,List.all_eq_true] at hs
   obtain⟨h1,h2,h3⟩:=hs
   have h2:=Nat.eq_of_beq_eq_true h2
   obtain⟨xs,n,_,_,_,hxl,hf⟩:=DataW.trod_struct hu h
   obtain⟨as,bs,ls,ho⟩:=zkp (enc:=enc) (w:=w) fs.toList 0 cs h1 (by omega) (fun f hf' ds hr hl' N=>zvo d f.type ds (h3 f hf') hr hl' N) (fun f hf'=>by
    obtain⟨i,hi⟩:=List.mem_iff_getElem?.1 hf'
    have hi':fs[i]?=some f:=by simpa using hi
    have hlt:i < xs.length:=by rw[hxl]; exact (Array.getElem?_eq_some_iff.1 hi').1
    have:=hf i f hi'
    rw[List.getElem?_eq_getElem hlt] at this
    exact⟨n,_,this⟩) N
   rw[List.drop_zero] at ho
   exact⟨as,bs,ls,⟨.struct hu (by rw[List.append_nil]; exact ho.shp),ho.len,ho.vr,ho.at'⟩⟩
  ·rename_i n e hu
   rw[Bool.and_eq_true] at hs
   have h1:=Nat.eq_of_beq_eq_true hs.1
   obtain⟨xs,m,_,_,_,hxl,hf⟩:=DataW.trod_array hu h
   obtain⟨as,bs,ls,ho⟩:=zes (enc:=enc) (w:=w) (fun ds hr hl' N=>zvo d e ds hs.2 hr hl' N) n cs (by omega) (fun i hi=>by
    have:=hf i hi
    rw[List.getElem?_eq_getElem (by omega)] at this
    exact⟨m,_,this⟩) N
   exact⟨as,bs,ls,⟨.array hu (by rw[List.append_nil]; exact ho.shp),ho.len,ho.vr,ho.at'⟩⟩
end
end Go.Ab
namespace Go.Ab
open Go Go.ChangeShapes Go.WideShapes Go.RowKit
set_option linter.unusedVariables false
noncomputable def lay(H:Heap)(bs:List (List Value)):Heap:=match bs with
 | []=>H
 | b::r=>lay ⟨H.t.set H.next (match b with|[]=>none|_::_=>some ⟨b,false⟩),Nat.succ H.next,H.floor,H.lps⟩ r
inductive ArgS (P:Program):List TypeId→Nat→List Value→List (List Value)→Prop
 | nil {N:Nat}:ArgS P [] N [] []
 | one {t:TypeId} {ts:List TypeId} {N:Nat} {v:Value} {vs:List Value} {b b':List (List Value)}:(∀ fs,P.underlying t≠some (.struct fs))→(∀ n e,P.underlying t≠some (.array n e))→ShpL P [t] N [v] b→ArgS P ts (N+b.length) vs b'→ArgS P (t::ts) N (v::vs) (b++b')
 | agg {t:TypeId} {ts:List TypeId} {N:Nat} {cs vs:List Value} {b b':List (List Value)}:((∃ fs,P.underlying t=some (.struct fs))∨∃ n e,P.underlying t=some (.array n e))→ShpL P [t] N cs b→ArgS P ts (N+b.length) vs b'→ArgS P (t::ts) N (.agg cs.toArray::vs) (b++b')
section
variable{H:Type}{enc:TypeId × Value→H}{P:Program}{W:World}
theorem zCt{d:Nat}{base:Nat}{r:Reach}{t:TypeId}{v:Value}(hs:supB P d t=true)(h:Value.okWide P W r base t v) :
  v.cells.toList.length=P.cellsOf t∧(((∀ fs,P.underlying t≠some (.struct fs))∧(∀ n e,P.underlying t≠some (.array n e))∧v.cells.toList=[v])∨(((∃ fs,P.underlying t=some (.struct fs))∨∃ n e,P.underlying t=some (.array n e))∧∃ cs,v=.agg cs)):=by
 have scalar:∀ {u:TypeDesc},P.underlying t=some u→(∀ fs,u≠.struct fs)→(∀ n e,u≠.array n e)→P.cellsOf t=1→(u=.bool∨u=.string∨(∃ k,u=.int k)∨∃ e,u=.slice e)→v.cells.toList.length=P.cellsOf t∧(((∀ fs,P.underlying t≠some (.struct fs))∧(∀ n e,P.underlying t≠some (.array n e))∧v.cells.toList=[v])∨(((∃ fs,P.underlying t=some (.struct fs))∨∃ n e,P.underlying t=some (.array n e))∧∃ cs,v=.agg cs)):=by
  intro u hu h1 h2 hc hk
  have e:v.cells.toList=[v]:=by
   unfold Value.okWide at h
   rw[hu] at h
   rcases hk with rfl|rfl|⟨k,rfl⟩|⟨e,rfl⟩ <;> simp only at h <;> unfold Cell.okWide at h <;> rw[hu] at h <;> simp only at h <;> unfold Cell.ok at h <;> rw[hu] at h <;> cases v <;> first|rfl|exact absurd h (by simp)
  exact⟨by rw[e,hc]; rfl,.inl ⟨fun fs=>by rw[hu]; intro e; cases e; exact h1 _ rfl,fun n e=>by rw[hu]; intro e; cases e; exact h2 _ _ rfl,e⟩⟩
 cases d with
 | zero=>cases hs
 | succ d=>
  unfold supB at hs
  split at hs <;> try (cases hs; done)
  ·rename_i hu; exact scalar hu (by simp) (by simp) (Nat.eq_of_beq_eq_true hs) (.inl rfl)
  ·rename_i k hu; exact scalar hu (by simp) (by simp) (Nat.eq_of_beq_eq_true hs) (.inr (.inr (.inl ⟨_,rfl⟩)))
  ·rename_i hu; exact scalar hu (by simp) (by simp) (Nat.eq_of_beq_eq_true hs) (.inr (.inl rfl))
  ·rename_i e hu; rw[Bool.and_eq_true] at hs; exact scalar hu (by simp) (by simp) (Nat.eq_of_beq_eq_true hs.1) (.inr (.inr (.inr ⟨_,rfl⟩)))
  ·rename_i fs hu
   unfold Value.okWide at h
   rw[hu] at h
   obtain⟨cs,rfl,h1,_⟩:=h
   exact⟨h1,.inr ⟨.inl ⟨_,hu⟩,cs,rfl⟩⟩
  ·rename_i n e hu
   unfold Value.okWide at h
   rw[hu] at h
   obtain⟨cs,rfl,h1,_⟩:=h
   exact⟨h1,.inr ⟨.inr ⟨_,_,hu⟩,cs,rfl⟩⟩
theorem zDt{d:Nat}{base:Nat}{r:Reach}:∀ (ts:List TypeId) (vs:List Value) (ds:List (DataW H)) (p:List MemPlace),(∀ t ∈ ts,supB P d t=true)→(∀ (j:Nat) (t:TypeId) (v:Value),ts[j]?=some t→vs[j]?=some v→Value.okWide P W r base t v) →
  DataW.TrodAll enc P W 0 (fun _=>true) true ts vs ds p→∀ N,∃ as bs ls,ArgS P ts N as bs∧ls.length=bs.length∧VRs (zuo N ls) as vs∧∀ (i:Nat) (b:List Value) (x:Nat × Nat × Nat),bs[i]?=some b→ls[i]?=some x→BlkAt (zuo N ls) W b x
 | [],[],[],p,_,_,_,N=>⟨[],[],[],.nil,rfl,.nil,fun i b x h=>by simp at h⟩
 | [],[],_::_,p,_,_,h,N=>h.elim
 | [],_::_,_,p,_,_,h,N=>h.elim
 | _::_,[],_,p,_,_,h,N=>h.elim
 | _::_,_::_,[],p,_,_,h,N=>h.elim
 | t::ts,v::vs,x::ds,p,hs,hok,h,N=>by
  have h0:=h
  have hv:=hok 0 t v rfl rfl
  have hsup:=hs t (by simp)
  obtain⟨p1,q1,⟨fuel,hf⟩,hr,_⟩:=h0
  have hrd:RdT enc P W t v.cells.toList:=⟨fuel,_,hf⟩
  obtain⟨hlen,hag⟩:=zCt hsup hv
  obtain⟨as,bs,ls,h1⟩:=zvo d t _ hsup hrd hlen N
  obtain⟨as',bs',ls',h2,h3,h4,h5⟩:=zDt ts vs ds q1 (fun t ht=>hs t (by simp[ht])) (fun j t v ht hv=>hok (j+1) t v (by simpa using ht) (by simpa using hv)) hr (N+bs.length)
  have hr2:∀ id x,zuo (N+bs.length) ls' id=some x→zuo N (ls++ls') id=some x:=by rw[← h1.len]; exact zOm
  have hat:∀ (i:Nat) (b:List Value) (x:Nat × Nat × Nat),(bs++bs')[i]?=some b→(ls++ls')[i]?=some x→BlkAt (zuo N (ls++ls')) W b x:=by
   intro i b x hb hx
   by_cases hi:i < bs.length
   ·rw[List.getElem?_append_left hi] at hb
    rw[List.getElem?_append_left (by rw[h1.len]; exact hi)] at hx
    exact (h1.at' i b x hb hx).mono zbj
   ·rw[List.getElem?_append_right (by omega)] at hb
    rw[List.getElem?_append_right (by rw[h1.len]; omega),h1.len] at hx
    exact (h5 _ b x hb hx).mono hr2
  have hll:(ls++ls').length=(bs++bs').length:=by rw[List.length_append,List.length_append,h1.len,h3]
  rcases hag with⟨hn1,hn2,hc⟩|⟨hn,cs,rfl⟩
  ·rw[hc] at h1
   have hv1:=h1.vr
   obtain⟨a,rfl⟩:∃ a,as=[a]:=List.length_eq_one_iff.1 (by rw[hv1.length]; rfl)
   exact⟨a::as',bs++bs',ls++ls',.one hn1 hn2 h1.shp h2,hll,(hv1.mono zbj).cons (h4.mono hr2),hat⟩
  ·refine⟨.agg as.toArray::as',bs++bs',ls++ls',.agg hn h1.shp h2,hll,.agg _ _ ?_ (h4.mono hr2),hat⟩
   exact h1.vr.mono zbj
end
theorem zwo:∀ n,(start n).t.Up n
 | 0=>fun m hm=>absurd hm (Nat.not_lt_zero _)
 | n+1=>fun m hm=>by
  have e:(start (n+1)).t=(start n).t.set n none:=rfl
  rw[e]
  by_cases h:m=n
  ·subst h; exact (Tr.up_set _ _ _ (zwo m)).2
  ·exact Tr.in_set _ _ _ _ (zwo n m (by omega))
noncomputable def zCG(b:List Value):Option Blk:=match b with|[]=>none|_::_=>some ⟨b,false⟩
theorem zSC(H:Heap)(b:List Value)(r:List (List Value)):lay H (b::r)=lay ⟨H.t.set H.next (zCG b),Nat.succ H.next,H.floor,H.lps⟩ r:=rfl
structure Laid (H:Heap) (bs:List (List Value)) (H':Heap):Prop where
 next:H'.next=H.next+bs.length
 floor:H'.floor=H.floor
 lps:H'.lps=H.lps
 up:H.t.Up H.next→H'.t.Up H'.next
 old:∀ i,i < H.next→H'.get i=H.get i
 new:H.t.Up H.next→∀ j b,bs[j]?=some b→H'.get (H.next+j)=zCG b
 out:∀ i b,H'.get i=some b→H.get i=some b∨∃ j c,i=H.next+j∧bs[j]?=some c∧zCG c=some b
theorem zXz:∀ (bs:List (List Value)) (H:Heap),Laid H bs (lay H bs)
 | [],H=>⟨rfl,rfl,rfl,fun h=>h,fun _ _=>rfl,fun _ j b h=>by simp at h,fun i b h=>.inl h⟩
 | b::r,H=>by
  have ih:=zXz r ⟨H.t.set H.next (zCG b),Nat.succ H.next,H.floor,H.lps⟩
  rw[zSC]
  have hup:H.t.Up H.next→(H.t.set H.next (zCG b)).Up (Nat.succ H.next):=fun hu m hm=>by
   by_cases h:m=H.next
   ·subst h; exact (Tr.up_set _ _ _ hu).2
   ·exact Tr.in_set _ _ _ _ (hu m (by omega))
  refine⟨by rw[ih.next]; simp only[List.length_cons]; omega,ih.floor,ih.lps,fun hu=>ih.up (hup hu),fun i hi=>?_,fun hu j c hj=>?_,fun i x hx=>?_⟩
  ·rw[ih.old i (by show i < Nat.succ H.next; omega)]
   exact Tr.get_set_other _ _ _ _ (by omega)
  ·cases j with
   | zero=>
    simp at hj; subst hj
    rw[ih.old (H.next+0) (by show _ < Nat.succ H.next; omega)]
    exact (Tr.up_set _ _ _ hu).1
   | succ j=>
    have:=ih.new (hup hu) j c (by simpa using hj)
    rw[show H.next+(j+1)=Nat.succ H.next+j by omega]; exact this
  ·rcases ih.out i x hx with h|⟨j,c,h1,h2,h3⟩
   ·rcases Tr.get_set _ _ _ _ _ h with⟨e1,e2⟩|⟨_,e2⟩
    ·exact .inr ⟨0,b,e1,by simp,e2⟩
    ·exact .inl e2
   ·exact .inr ⟨j+1,c,by rw[h1]; show Nat.succ H.next+j=_; omega,by simpa using h2,h3⟩
def zvv(N:Nat):List (List Value)→List (Nat × Blk)
 | []=>[]
 | b::r=>(N,⟨b,false⟩)::zvv (N+1) r
theorem zxo:∀ (bs:List (List Value)) (N:Nat) (x:Nat × Blk),x ∈ zvv N bs→∃ (j:Nat) (b:List Value),bs[j]?=some b∧x=(N+j,⟨b,false⟩)
 | [],N,x,h=>by cases h
 | b::r,N,x,h=>by
  rcases List.mem_cons.1 h with rfl|h
  ·exact⟨0,b,by simp,rfl⟩
  ·obtain⟨j,c,h1,h2⟩:=zxo r (N+1) x h
   exact⟨j+1,c,by simpa using h1,by rw[h2]; congr 1; omega⟩
theorem zSq:∀ (bs:List (List Value)) (N:Nat),((zvv N bs).map (·.1)).Nodup
 | [],N=>.nil
 | b::r,N=>by
  show (N::(zvv (N+1) r).map (·.1)).Nodup
  refine List.nodup_cons.2 ⟨fun h=>?_,zSq r (N+1)⟩
  obtain⟨x,hx,e⟩:=List.mem_map.1 h
  obtain⟨j,c,_,rfl⟩:=zxo r (N+1) x hx
  simp at e; omega
theorem st_args(G:Nat)(bs:List (List Value)):St (lay (start G) bs) (zvv G bs):=by
 have h:=zXz bs (start G)
 refine⟨by rw[h.floor]; rfl,h.up (zwo G),zSq bs G,fun x hx=>?_,fun x hx hw=>?_,h.lps,fun x hx=>(by cases hx)⟩
 ·obtain⟨j,b,h1,rfl⟩:=zxo bs G x hx
  rw[h.next]
  have:=(List.getElem?_eq_some_iff.1 h1).1
  show G+j < G+bs.length; omega
 ·obtain⟨j,b,h1,rfl⟩:=zxo bs G x hx
  have:(lay (start G) bs).get (G+j)=zCG b:=h.new (zwo G) j b h1
  rcases hw with hw|hw
  ·cases hw
  ·show (lay (start G) bs).get (G+j)=_
   rw[this]
   cases b with
   | nil=>exact absurd rfl hw
   | cons _ _=>rfl
section
variable{H:Type}{enc:TypeId × Value→H}{P:Program}{W:World}[Orc]
theorem law_calls(hP:goodB P=true)(ho:@OrcOk (baseOf W) _ P){f:FuncId}{ts:List TypeId}{d:Nat}(hs:∀ t ∈ ts,supB P d t=true)
  (hk:∀ as bs,ArgS P ts P.globals.size as bs→wCall P f as (lay (start P.globals.size) bs) fun v _=>v=.bool true)
  {base:Nat} {r:Reach} {args:Array Value} {ds:List (DataW H)} {p:List MemPlace} (hok:∀ (j:Nat) (t:TypeId) (v:Value),ts[j]?=some t→args.toList[j]?=some v→Value.okWide P W r base t v)
  (hA:DataW.TrodAll enc P W 0 (fun _=>true) true ts args.toList ds p):Calls P f args W fun e w'=>e=.returned (.bool true)∧RowKit.Below W.heap.size W w':=by
 obtain⟨as,bs,ls,h1,h2,h3,h4⟩:=zDt ts args.toList ds p hs hok hA P.globals.size
 obtain⟨n,ex,v,H',hrun,rfl⟩:=hk as bs h1
 have hl:=zXz bs (start P.globals.size)
 let σ:Loc:=fun id=>if id < P.globals.size then some (id,0,0) else zuo P.globals.size ls id
 have hσ:∀ id x,zuo P.globals.size ls id=some x→σ id=some x:=fun id x hx=>by
  show (if _ then _ else _)=_
  rw[if_neg]; exact hx
  intro hlt
  unfold zuo at hx
  rw[if_neg (by omega)] at hx; cases hx
 have hget:∀ id o,(lay (start P.globals.size) bs).getO id=some o→∃ (j:Nat) (b:List Value),id=P.globals.size+j∧bs[j]?=some b∧b≠[]∧o=.cells ⟨b,false⟩:=by
  intro id o hid
  unfold Heap.getO at hid
  rw[hl.lps] at hid
  cases hg:(lay (start P.globals.size) bs).get id with
  | none=>rw[hg] at hid; cases hid
  | some x=>
   rw[hg] at hid
   cases hid
   rcases hl.out id x hg with h|⟨j,c,e1,e2,e3⟩
   ·rw[zrt] at h; cases h
   ·cases c with
    | nil=>cases e3
    | cons y z=>cases e3; exact⟨j,_,e1,e2,by simp,rfl⟩
 letI:=baseOf W
 have kn:Known P W.heap.size σ (lay (start P.globals.size) bs).getO (lay (start P.globals.size) bs) W:=by
  refine⟨⟨fun id b hb=>?_,fun id b hb hw=>?_,fun i j bi bj _ hi _ hw=>?_⟩,fun id b hb=>hb,Nat.le_refl _,fun g hg=>⟨0,by show (if g < P.globals.size then _ else _)=_; rw[if_pos hg]⟩,⟨fun i hi=>?_,fun i hi=>?_⟩,by rw[hl.floor]; exact Nat.zero_le _,fun _ _=>rfl,Nat.le_refl _⟩
  ·obtain⟨j,c,rfl,e2,e3,rfl⟩:=hget id b hb
   have hlt:j < ls.length:=by rw[h2]; exact (List.getElem?_eq_some_iff.1 e2).1
   obtain⟨x,hx⟩:∃ x,ls[j]?=some x:=⟨_,List.getElem?_eq_getElem hlt⟩
   obtain⟨arr,ty,fr,q1,q2,q3,q4⟩:=h4 j c x e2 hx e3
   obtain⟨x1,x2,x3⟩:=x
   refine⟨x1,x2,x3,arr,ty,fr,hσ _ _ ?_,q1,q2,q3,q4.mono hσ,fun h=>by cases h⟩
   unfold zuo
   rw[if_pos (by omega),show P.globals.size+j - P.globals.size=j by omega,hx]
  ·obtain⟨j,c,_,_,_,rfl⟩:=hget id b hb; cases hw
  ·obtain⟨j,c,_,_,_,rfl⟩:=hget i bi hi; cases hw
  ·cases ho:(lay (start P.globals.size) bs).getO i with
   | none=>exact absurd ho hi
   | some o=>
    obtain⟨j,c,rfl,e2,_,_⟩:=hget i o ho
    have:=(List.getElem?_eq_some_iff.1 e2).1
    rw[hl.next]; show P.globals.size+j < P.globals.size+bs.length; omega
  ·rw[hl.lps] at hi; exact absurd rfl hi
 have hfr:Fresh σ (lay (start P.globals.size) bs).next H'.next:=by
  intro i h1 _
  rw[hl.next] at h1
  have h1:P.globals.size+bs.length≤i:=h1
  show (if i < P.globals.size then _ else _)=_
  rw[if_neg (by omega)]
  unfold zuo
  rw[if_pos (by omega)]
  exact List.getElem?_eq_none (by omega)
 have hc:=((zYE (zBz hP) ho n).call f as _ ex (.bool true) H' hrun W.heap.size σ _ W args kn hfr (h3.mono hσ)).2
 refine (CallsIn.calls hc (zUE none)).mono ?_
 rintro e w' ⟨v',τ,h',rfl,hv,hs⟩
 cases hv
 refine⟨rfl,hs.goes.os,hs.goes.tape,hs.goes.output,hs.goes.size,fun k hk=>hs.goes.keep k hk ?_⟩
 rintro⟨id,b,_,_,hb,hw,_⟩
 obtain⟨j,c,_,_,_,rfl⟩:=hget id b hb
 cases hw
omit [Orc] in
theorem trodAll_len{base:Nat}{sp:Nat→Bool}{hd:Bool}:∀ {ts:List TypeId} {vs:List Value} {ds:List (DataW H)} {p:List MemPlace},DataW.TrodAll enc P W base sp hd ts vs ds p→ds.length=ts.length
 | [],[],[],_,_=>rfl
 | [],[],_::_,_,h=>h.elim
 | [],_::_,_,_,h=>h.elim
 | _::_,[],_,_,h=>h.elim
 | _::_,_::_,[],_,h=>h.elim
 | _::_,_::_,_::_,_,⟨_,_,_,h,_⟩=>by simp[trodAll_len h]
omit [Orc] in
theorem zKl(hl:laidOutB P=true){W':World}(hb:RowKit.Below W.heap.size W W'):∀ (ts:List TypeId) (vs:List Value) (ds:List (DataW H)) (p:List MemPlace),(∀ t ∈ ts,P.readableRec t=true∧t < P.types.size) →
  DataW.TrodAll enc P W 0 (fun _=>true) true ts vs ds p→(∀ x ∈ p,x.block < W.heap.size)→DataW.TrodAll enc P W' 0 (fun b=>decide (b < W.heap.size)) true ts vs ds p
 | [],[],[],p,_,h,_=>h
 | [],[],_::_,p,_,h,_=>h.elim
 | [],_::_,_,p,_,h,_=>h.elim
 | _::_,[],_,p,_,h,_=>h.elim
 | _::_,_::_,[],p,_,h,_=>h.elim
 | t::ts,v::vs,d::ds,p,hr,⟨p1,q1,h1,h2,e⟩,hlt=>by
  subst e
  obtain⟨r1,r2⟩:=hr t (by simp)
  exact⟨p1,q1,RowKit.Below.trod hl r1 r2 h1 hb fun x hx=>hlt x (by simp[hx]),zKl hl hb ts vs ds q1 (fun t ht=>hr t (by simp[ht])) h2 fun x hx=>hlt x (by simp[hx]),rfl⟩
omit [Orc] in
theorem post_law{f:Func}{s:ChangeSpec}{apart fresh handsOn:Bool}{W':World}{args:Array Value}{v:Value}{ds gs:List (DataW H)}{before:List MemPlace}(hl:laidOutB P=true)
  (hrd:∀ t ∈ f.params.toList,P.readableRec t=true∧t < P.types.size) (hsv:s.vars=[]) (hW:DataW.Whole enc P f.params.toList s.vars apart W args.toList ds gs before) (hb:RowKit.Below W.heap.size W W')
  (hres:∀ (b:Nat) (sp:Nat→Bool) (hd:Bool),DataW.TrodAll enc P W' b sp hd f.resultTypes.toList (v.resultList f.resultTypes.size) (s.fn H (ds++gs)).results [])
  (hargs:(s.fn H (ds++gs)).args=ds) (hvars:(s.fn H (ds++gs)).vars=[]):s.post enc P f apart fresh handsOn false W args v W':=by
 have hlt:∀ x ∈ before,x.block < W.heap.size:=fun x hx=>hW.lt x hx
 have hW0:=hW
 obtain⟨p,q,h1,h2,rfl,h3,h4⟩:=hW
 rw[hsv] at h2
 obtain⟨rfl,rfl⟩:=trodVars_none h2
 refine⟨ds,[],_,[],p,[],hW0,hres _ _ _,?_,?_,hb.frame _,fun h=>by cases h⟩
 ·rw[hargs]
  exact zKl hl hb _ _ _ _ hrd h1 fun x hx=>hlt x (by simp[hx])
 ·rw[hsv,hvars]; exact rfl
end
end Go.Ab
namespace Go.Ab
open Go
local instance:Base:=⟨fun _=>none,0⟩
set_option linter.unusedVariables false
set_option linter.unusedSectionVars false
section
variable[Orc][LpC]{P:Program}{H:Heap}{Γ Δ:List (Nat × Blk)}{K:Value→Heap→Prop}
omit [Orc] in
theorem zua{L:List (Nat × Blk)}{k:Nat}{x:Nat × Blk}(h:L[k]?=some x):(Γ++L)[Γ.length+k]?=some x:=by
 rw[List.getElem?_append_right (by omega),Nat.add_sub_cancel_left]; exact h
omit [Orc] in
theorem zwa{L:List (Nat × Blk)}{j:Nat}{x:Nat × Blk}(h:Γ[j]?=some x):(Γ++L)[j]?=some x:=by
 rw[List.getElem?_append_left (List.getElem?_eq_some_iff.1 h).1]; exact h
omit [Orc] in
theorem set_r{L:List (Nat × Blk)}{k:Nat}{x:Nat × Blk}:(Γ++L).set (Γ.length+k) x=Γ++L.set k x:=by
 rw[List.set_append_right _ _ (by omega),Nat.add_sub_cancel_left]
theorem St.set_r{L:List (Nat × Blk)}{k:Nat}{x:Nat × Blk}(h:St H ((Γ++L).set (Γ.length+k) x)):St H (Γ++L.set k x):=by rw[Go.Ab.set_r] at h; exact h
omit [Orc] in
theorem zTC{m:Nat}{x:Nat × Blk}(h:Γ[m]?=some x):Γ.set m x=Γ:=by
 have hl:=(List.getElem?_eq_some_iff.1 h).1
 apply List.ext_getElem?
 intro j
 rw[List.getElem?_set]
 by_cases e:m=j
 ·subst e; rw[if_pos rfl,if_pos hl,h]
 ·rw[if_neg e]
theorem St.keep{L:List (Nat × Blk)}(n:Nat)(h:St H (Γ++L)):St H (Γ++L.take n):=h.sub (List.Sublist.append (List.Sublist.refl _) (List.take_sublist n L))
def RdInts(Γ:List (Nat × Blk))(v:Value)(k:IntKind)(xs:List Int):Prop:=
 (v=zBa∧xs=[])∨∃ (p c j:Nat),v=sl p 0 xs.length c∧Γ[j]?=some (p,(⟨xs.map (Value.int k),false⟩:Blk))
theorem RdInts.len{v:Value}{k:IntKind}{xs:List Int}(h:RdInts Γ v k xs):lenSl v H=some (int xs.length,H):=by
 rcases h with⟨rfl,rfl⟩|⟨p,c,j,rfl,_⟩ <;> rfl
theorem RdInts.pos{v:Value}{k:IntKind}{xs:List Int}(h:RdInts Γ v k xs)(hp:0 < xs.length):∃ (p c j:Nat),v=sl p 0 xs.length c∧Γ[j]?=some (p,(⟨xs.map (Value.int k),false⟩:Blk)):=by
 rcases h with⟨_,rfl⟩|h
 ·simp at hp
 ·exact h
theorem zfF{k:IntKind}{n:Int}(h1:-9223372036854775808≤n)(h2:n≤9223372036854775807):zhf .i64 (.int k n) H=some (int n,H):=by
 show some (Value.int .i64 (zqc .i64 n),H)=_
 rw[zun h1 h2]
theorem zfs{k:IntKind}{t:TypeId}{c:Bool}{a b:Int}(hb:b≠0):(zma P .rem t c).f (.int k a) (.int k b)=some (.int k (a.tmod b)):=by
 rw[zec a b rfl]
 show (match eqB b 0 with|true=>none|false=>some (Value.int k (a.tmod b)))=_
 rw[zug,decide_eq_false hb]
end
theorem wf_i64{x:Int}(h:(Lit.int .i64 x).wf=true):-9223372036854775808≤x∧x≤9223372036854775807:=by
 have h:(decide (IntKind.i64.min≤x) && decide (x≤IntKind.i64.max))=true:=h
 have e1:IntKind.i64.min=-9223372036854775808:=by decide
 have e2:IntKind.i64.max=9223372036854775807:=by decide
 rw[e1,e2,Bool.and_eq_true] at h
 exact⟨of_decide_eq_true h.1,of_decide_eq_true h.2⟩
theorem wf_u64{x:Int}(h:(Lit.int .u64 x).wf=true):0≤x∧x≤18446744073709551615:=by
 have h:(decide (IntKind.u64.min≤x) && decide (x≤IntKind.u64.max))=true:=h
 have e1:IntKind.u64.min=0:=by decide
 have e2:IntKind.u64.max=18446744073709551615:=by decide
 rw[e1,e2,Bool.and_eq_true] at h
 exact⟨of_decide_eq_true h.1,of_decide_eq_true h.2⟩
theorem wf_u8{x:Int}(h:(Lit.int .u8 x).wf=true):0≤x∧x≤255:=by
 have h:(decide (IntKind.u8.min≤x) && decide (x≤IntKind.u8.max))=true:=h
 have e1:IntKind.u8.min=0:=by decide
 have e2:IntKind.u8.max=255:=by decide
 rw[e1,e2,Bool.and_eq_true] at h
 exact⟨of_decide_eq_true h.1,of_decide_eq_true h.2⟩
section
variable{P:Program}
theorem zEt{e:TypeId}{k:IntKind}(he:P.underlying e=some (.int k)):∀ (n N:Nat) (c:List Value) (b:List (List Value)),ShpL P (List.replicate n e) N c b→b=[]∧∃ xs:List Int,c=xs.map (Value.int k)∧xs.length=n∧∀ x ∈ xs,(Lit.int k x).wf=true
 | 0,N,c,b,h=>by cases h; exact⟨rfl,[],rfl,rfl,by simp⟩
 | n+1,N,c,b,h=>by
  have h:ShpL P (e::List.replicate n e) N c b:=h
  cases h with
  | int v hu hw h2=>
   rw[he] at hu; cases hu
   obtain⟨rfl,xs,rfl,rfl,hx⟩:=zEt he n N _ _ h2
   exact⟨rfl,v::xs,rfl,rfl,fun y hy=>by rcases List.mem_cons.1 hy with rfl|hy; exact hw; exact hx y hy⟩
  | bool v hu _=>rw[he] at hu; cases hu
  | str v hu _ _=>rw[he] at hu; cases hu
  | slNil hu _=>rw[he] at hu; cases hu
  | sl len hu _ _ _ _=>rw[he] at hu; cases hu
  | struct hu _=>rw[he] at hu; cases hu
  | array hu _=>rw[he] at hu; cases hu
theorem zfc{t:TypeId}{k:IntKind}(ht:P.underlying t=some (.int k)){ts:List TypeId}{N:Nat}{c:List Value}{b:List (List Value)}(h:ShpL P (t::ts) N c b):∃ (x:Int) (c':List Value),c=.int k x::c'∧(Lit.int k x).wf=true∧ShpL P ts N c' b:=by
 cases h with
 | int v hu hw h=>rw[ht] at hu; cases hu; exact⟨v,_,rfl,hw,h⟩
 | bool v hu _=>rw[ht] at hu; cases hu
 | str v hu _ _=>rw[ht] at hu; cases hu
 | slNil hu _=>rw[ht] at hu; cases hu
 | sl len hu _ _ _ _=>rw[ht] at hu; cases hu
 | struct hu _=>rw[ht] at hu; cases hu
 | array hu _=>rw[ht] at hu; cases hu
theorem zgs{N:Nat}{c:List Value}{b:List (List Value)}(h:ShpL P [] N c b):c=[]∧b=[]:=by cases h; exact⟨rfl,rfl⟩
theorem zYz{t e:TypeId}(ht:P.underlying t=some (.slice e)){ts:List TypeId}{N:Nat}{c:List Value}{b:List (List Value)}(h:ShpL P (t::ts) N c b) :
  (∃ c',c=zBa::c'∧ShpL P ts N c' b)∨∃ (len:Nat) (cells c':List Value) (bs b':List (List Value)),c=sl N 0 len (2 * P.cellsOf e)::c'∧b=cells::(bs++b')∧len≤maxLen∧cells.length=len * P.cellsOf e∧ShpL P (List.replicate len e) (N+1) cells bs∧ShpL P ts (N+1+bs.length) c' b':=by
 cases h with
 | int v hu hw h=>rw[ht] at hu; cases hu
 | bool v hu _=>rw[ht] at hu; cases hu
 | str v hu _ _=>rw[ht] at hu; cases hu
 | slNil hu h=>exact .inl ⟨_,rfl,h⟩
 | sl len hu h1 h2 h3 h4=>rw[ht] at hu; cases hu; exact .inr ⟨len,_,_,_,_,rfl,rfl,h1,h2,h3,h4⟩
 | struct hu _=>rw[ht] at hu; cases hu
 | array hu _=>rw[ht] at hu; cases hu
theorem zZz{t:TypeId}{ts:List TypeId}{N:Nat}{as:List Value}{b:List (List Value)}(h:ArgS P (t::ts) N as b)(hn:∀ fs,P.underlying t≠some (.struct fs))(hn2:∀ n e,P.underlying t≠some (.array n e)) :
  ∃ v vs b1 b2,as=v::vs∧b=b1++b2∧ShpL P [t] N [v] b1∧ArgS P ts (N+b1.length) vs b2:=by
 cases h with
 | one _ _ h1 h2=>exact⟨_,_,_,_,rfl,rfl,h1,h2⟩
 | agg h1 _ _=>rcases h1 with⟨fs,h⟩|⟨n,e,h⟩; exact absurd h (hn fs); exact absurd h (hn2 n e)
theorem zaA{t:TypeId}{ts:List TypeId}{N:Nat}{as:List Value}{b:List (List Value)}(h:ArgS P (t::ts) N as b)(hn:(∃ fs,P.underlying t=some (.struct fs))∨∃ n e,P.underlying t=some (.array n e)) :
  ∃ cs vs b1 b2,as=.agg cs.toArray::vs∧b=b1++b2∧ShpL P [t] N cs b1∧ArgS P ts (N+b1.length) vs b2:=by
 cases h with
 | one h1 h2 _ _=>rcases hn with⟨fs,h⟩|⟨n,e,h⟩; exact absurd h (h1 fs); exact absurd h (h2 n e)
 | agg _ h1 h2=>exact⟨_,_,_,_,rfl,rfl,h1,h2⟩
theorem arg_nil{N:Nat}{as:List Value}{b:List (List Value)}(h:ArgS P [] N as b):as=[]∧b=[]:=by cases h; exact⟨rfl,rfl⟩
theorem arg_int{t:TypeId}{ts:List TypeId}{N:Nat}{as:List Value}{b:List (List Value)}{k:IntKind}(ht:P.underlying t=some (.int k))(h:ArgS P (t::ts) N as b):∃ x vs,as=.int k x::vs∧(Lit.int k x).wf=true∧ArgS P ts N vs b:=by
 obtain⟨v,vs,b1,b2,rfl,rfl,h1,h2⟩:=zZz h (by rw[ht]; simp) (by rw[ht]; simp)
 obtain⟨x,c',e,hw,h3⟩:=zfc ht h1
 cases e
 obtain⟨_,rfl⟩:=zgs h3
 exact⟨x,vs,rfl,hw,by simpa using h2⟩
theorem argG_append(bs bs':List (List Value)):∀ N,zvv N (bs++bs')=zvv N bs++zvv (N+bs.length) bs':=by
 induction bs with
 | nil=>intro N; rfl
 | cons b r ih=>intro N; show _::zvv (N+1) (r++bs')=_::(_++_); rw[ih]; simp only[List.length_cons]; rw[show N+1+r.length=N+(r.length+1) by omega]
theorem RdInts.app{Γ Δ:List (Nat × Blk)}{v:Value}{k:IntKind}{xs:List Int}(h:RdInts Γ v k xs):RdInts (Γ++Δ) v k xs:=by
 rcases h with h|⟨p,c,j,h1,h2⟩
 ·exact .inl h
 ·exact .inr ⟨p,c,j,h1,zwa h2⟩
theorem RdInts.app'{Γ Δ:List (Nat × Blk)}{v:Value}{k:IntKind}{xs:List Int}(h:RdInts Δ v k xs):RdInts (Γ++Δ) v k xs:=by
 rcases h with h|⟨p,c,j,h1,h2⟩
 ·exact .inl h
 ·exact .inr ⟨p,c,Γ.length+j,h1,zua h2⟩
def RdPairs(Γ:List (Nat × Blk))(v:Value)(xs:List (Int × Int)):Prop:=
 (v=zBa∧xs=[])∨∃ (p c j:Nat),v=sl p 0 xs.length c∧Γ[j]?=some (p,(⟨xs.flatMap fun a=>[int a.1,int a.2],false⟩:Blk))
theorem RdPairs.len{Γ:List (Nat × Blk)}{v:Value}{xs:List (Int × Int)}{H:Heap}(h:RdPairs Γ v xs):lenSl v H=some (int xs.length,H):=by
 rcases h with⟨rfl,rfl⟩|⟨p,c,j,rfl,_⟩ <;> rfl
theorem RdPairs.pos{Γ:List (Nat × Blk)}{v:Value}{xs:List (Int × Int)}(h:RdPairs Γ v xs)(hp:0 < xs.length):∃ (p c j:Nat),v=sl p 0 xs.length c∧Γ[j]?=some (p,(⟨xs.flatMap fun a=>[int a.1,int a.2],false⟩:Blk)):=by
 rcases h with⟨_,rfl⟩|h
 ·simp at hp
 ·exact h
theorem RdPairs.app{Γ Δ:List (Nat × Blk)}{v:Value}{xs:List (Int × Int)}(h:RdPairs Γ v xs):RdPairs (Γ++Δ) v xs:=by
 rcases h with h|⟨p,c,j,h1,h2⟩
 ·exact .inl h
 ·exact .inr ⟨p,c,j,h1,zwa h2⟩
theorem RdPairs.app'{Γ Δ:List (Nat × Blk)}{v:Value}{xs:List (Int × Int)}(h:RdPairs Δ v xs):RdPairs (Γ++Δ) v xs:=by
 rcases h with h|⟨p,c,j,h1,h2⟩
 ·exact .inl h
 ·exact .inr ⟨p,c,Γ.length+j,h1,zua h2⟩
end
end Go.Ab
namespace Go.Ab
open Go
local instance:Base:=⟨fun _=>none,0⟩
set_option linter.unusedVariables false
inductive CK|b|i (k:IntKind)|s
def zMJ:CK→Value→Prop
 | .b,.bool _=>True
 | .i k,.int k' _=>k=k'
 | .s,.string _=>True
 | _,_=>False
def Fit:List CK→List Value→Prop
 | [],[]=>True
 | k::ks,v::vs=>zMJ k v∧Fit ks vs
 | _,_=>False
def zTq:Value→Value→Bool
 | .bool a,.bool b=>a == b
 | .int _ a,.int _ b=>decide (a=b)
 | .string a,.string b=>a.data.toList == b.data.toList
 | _,_=>false
def zvc:List Value→List Value→Bool
 | [],[]=>true
 | x::xs,y::ys=>zTq x y && zvc xs ys
 | _,_=>false
theorem Fit.len:∀ {ks:List CK} {vs:List Value},Fit ks vs→vs.length=ks.length
 | [],[],_=>rfl
 | _::_,_::_,h=>by simp[Fit.len h.2]
theorem Fit.app:∀ {a b:List CK} {vs:List Value},Fit (a++b) vs→Fit a (vs.take a.length)∧Fit b (vs.drop a.length)
 | [],b,vs,h=>⟨trivial,h⟩
 | k::a,b,v::vs,h=>⟨⟨h.1,(Fit.app (a:=a) h.2).1⟩,(Fit.app (a:=a) h.2).2⟩
theorem zQk:∀ (n:Nat) (xs ys:List Value),n≤xs.length→xs.length=ys.length→zvc xs ys=(zvc (xs.take n) (ys.take n) && zvc (xs.drop n) (ys.drop n))
 | 0,xs,ys,_,_=>by simp[zvc]
 | n+1,x::xs,y::ys,h,e=>by
  show (zTq x y && zvc xs ys)=((zTq x y && zvc (xs.take n) (ys.take n)) && zvc (xs.drop n) (ys.drop n))
  rw[zQk n xs ys (by simpa using h) (by simpa using e),Bool.and_assoc]
 | n+1,[],_,h,_=>by simp at h
 | n+1,_::_,[],_,e=>by simp at e
section
variable(P:Program)
def zLw(F:TypeId→Option (List CK)):List Field→Nat→Option (List CK)
 | [],_=>some []
 | f::fs,off=>
  if f.name == "_" then none else
  match Nat.beq f.offset off,zxb P f.type,F f.type with
  | true,some m,some ks=>(match Nat.beq ks.length m,zLw F fs (off+m) with
   | true,some r=>some (ks++r)
   | _,_=>none)
  | _,_,_=>none
def zDG:Nat→List CK→List CK
 | 0,_=>[]
 | n+1,l=>l++zDG n l
def flatK:Nat→TypeId→Option (List CK)
 | 0,_=>none
 | d+1,t=>
  match P.underlying t,zUe P t with
  | some .bool,some false=>some [.b]
  | some (.int k),some false=>some [.i k]
  | some .string,some false=>some [.s]
  | some (.struct fs),some true=>if P.stoodInHeld t then none else zLw P (flatK d) fs.toList 0
  | some (.array n e),some true=>(match zxb P e,flatK d e with
   | some m,some ks=>(match Nat.beq ks.length m with|true=>some (zDG n ks)|false=>none)
   | _,_=>none)
  | _,_=>none
variable{P}
def valOf(P:Program)(t:TypeId)(cs:List Value):Option Value:=
 match zUe P t with
 | some true=>some (.agg cs.toArray)
 | some false=>cs[0]?
 | none=>none
theorem zTj{t:TypeId}{cs:List Value}{off n:Nat}{ks:List CK}(hs:zxb P t=some n)(hf:Fit ks ((cs.drop off).take n))(hk:ks.length=n)(h1:zUe P t=some false→n=1):zum P t cs off=valOf P t ((cs.drop off).take n):=by
 unfold zum valOf
 rw[hs]
 match h:zUe P t with
 | some true=>simp only[zlb,ztb]
 | some false=>
  have:=h1 h
  subst this
  simp only[zYi]
  rw[List.getElem?_take_of_lt (by omega),List.getElem?_drop,Nat.add_zero]
 | none=>rfl
theorem zhs{d:Nat}{t:TypeId}{ks:List CK}(h:flatK P d t=some ks)(ha:zUe P t=some false):ks.length=1:=by
 cases d with
 | zero=>cases h
 | succ d=>
  unfold flatK at h
  rw[ha] at h
  split at h <;> first|(cases h; rfl)|(rename_i hh; cases hh)|cases h
theorem zUj{d:Nat}{t:TypeId}{ks:List CK}{xs:List Value}(h:flatK P d t=some ks)(hx:Fit ks xs):∃ v,valOf P t xs=some v:=by
 unfold valOf
 match ha:zUe P t with
 | some true=>exact⟨_,rfl⟩
 | some false=>
  have h1:=zhs h ha
  have:=hx.len
  match xs with
  | x::_=>exact⟨x,rfl⟩
  | []=>simp at this; omega
 | none=>
  cases d with
  | zero=>cases h
  | succ d=>
   unfold flatK at h
   rw[ha] at h
   split at h <;> first|(rename_i hh; cases hh)|cases h
def zbA(P:Program)(eq:TypeId→Value→Value→Option Bool)(F:TypeId→Option (List CK)):Prop:=
 ∀ t ks xs ys x y,F t=some ks→Fit ks xs→Fit ks ys→valOf P t xs=some x→valOf P t ys=some y→eq t x y=some (zvc xs ys)
theorem zlp{eq:TypeId→Value→Value→Option Bool}{d:Nat}(hg:zbA P eq (flatK P d))(xs ys:List Value) :
  ∀ (fs:List Field) (off:Nat) (ks:List CK),zLw P (flatK P d) fs off=some ks→Fit ks (xs.drop off)→Fit ks (ys.drop off)→eqFields P eq xs ys fs=some (zvc (xs.drop off) (ys.drop off))
 | [],off,ks,h,hx,hy=>by
  cases h
  have e1:xs.drop off=[]:=List.length_eq_zero_iff.1 hx.len
  have e2:ys.drop off=[]:=List.length_eq_zero_iff.1 hy.len
  rw[e1,e2]; rfl
 | f::fs,off,ks,h,hx,hy=>by
  unfold zLw at h
  unfold eqFields
  split at h
  ·cases h
  ·rename_i hname
   rw[if_neg hname]
   split at h
   ·rename_i m ks1 ho hs hf
    split at h
    ·rename_i r hl hr
     cases h
     have ho:=Nat.eq_of_beq_eq_true ho
     have hl:=Nat.eq_of_beq_eq_true hl
     subst ho
     obtain⟨hx1,hx2⟩:=hx.app
     obtain⟨hy1,hy2⟩:=hy.app
     rw[hl] at hx1 hx2 hy1 hy2
     have h1:zUe P f.type=some false→m=1:=fun ha=>by rw[← hl]; exact zhs hf ha
     rw[zTj hs hx1 hl h1,zTj hs hy1 hl h1]
     obtain⟨v,hv⟩:=zUj hf hx1
     obtain⟨w,hw⟩:=zUj hf hy1
     rw[hv,hw]
     simp only
     rw[hg _ _ _ _ _ _ hf hx1 hy1 hv hw]
     rw[List.drop_drop] at hx2 hy2
     have ih:=zlp hg xs ys fs (f.offset+m) r hr hx2 hy2
     have hlx:=hx.len
     have hly:=hy.len
     rw[List.length_append] at hlx hly
     rw[zQk m (xs.drop f.offset) (ys.drop f.offset) (by omega) (by omega),List.drop_drop,List.drop_drop]
     cases hc:zvc ((xs.drop f.offset).take m) ((ys.drop f.offset).take m) with
     | true=>simp only[ih,Bool.true_and]
     | false=>simp only[Bool.false_and]
    ·cases h
   ·cases h
theorem zUq{eq:TypeId→Value→Value→Option Bool}{d:Nat}(hg:zbA P eq (flatK P d)){e:TypeId}{m:Nat}{ks:List CK}(hs:zxb P e=some m)(hf:flatK P d e=some ks)(hl:ks.length=m)(xs ys:List Value) :
  ∀ (n i:Nat),Fit (zDG n ks) (xs.drop (i * m))→Fit (zDG n ks) (ys.drop (i * m))→zvm P (eq e) e m xs ys n i=some (zvc (xs.drop (i * m)) (ys.drop (i * m)))
 | 0,i,hx,hy=>by
  have e1:xs.drop (i * m)=[]:=List.length_eq_zero_iff.1 hx.len
  have e2:ys.drop (i * m)=[]:=List.length_eq_zero_iff.1 hy.len
  rw[e1,e2]; rfl
 | n+1,i,hx,hy=>by
  unfold zvm
  have hx:Fit (ks++zDG n ks) (xs.drop (i * m)):=hx
  have hy:Fit (ks++zDG n ks) (ys.drop (i * m)):=hy
  obtain⟨hx1,hx2⟩:=hx.app
  obtain⟨hy1,hy2⟩:=hy.app
  rw[hl] at hx1 hx2 hy1 hy2
  have h1:zUe P e=some false→m=1:=fun ha=>by rw[← hl]; exact zhs hf ha
  rw[zTj hs hx1 hl h1,zTj hs hy1 hl h1]
  obtain⟨v,hv⟩:=zUj hf hx1
  obtain⟨w,hw⟩:=zUj hf hy1
  rw[hv,hw]
  simp only
  rw[hg _ _ _ _ _ _ hf hx1 hy1 hv hw]
  rw[List.drop_drop,← Nat.succ_mul] at hx2 hy2
  have ih:=zUq hg hs hf hl xs ys n (i+1) hx2 hy2
  have hlx:=hx.len
  have hly:=hy.len
  rw[List.length_append] at hlx hly
  rw[zQk m (xs.drop (i * m)) (ys.drop (i * m)) (by omega) (by omega),List.drop_drop,List.drop_drop,← Nat.succ_mul]
  cases hc:zvc ((xs.drop (i * m)).take m) ((ys.drop (i * m)).take m) with
  | true=>simp only[Bool.true_and]; exact ih
  | false=>simp only[Bool.false_and]
theorem zMw:∀ (d D:Nat),d≤D→zbA P (eqA P D) (flatK P d)
 | 0,_,_=>fun t ks xs ys x y h=>by cases h
 | d+1,0,h=>by omega
 | d+1,D+1,hd=>fun t ks xs ys x y h hx hy hvx hvy=>by
  have ih:=zMw d D (by omega)
  unfold flatK at h
  unfold eqA
  split at h
  ·rename_i hu ha
   cases h
   rw[hu]
   unfold valOf at hvx hvy
   rw[ha] at hvx hvy
   match xs,ys,hx,hy,hvx,hvy with
   | [.bool a],[.bool b],_,_,hvx,hvy=>cases hvx; cases hvy; simp[zvc,zTq]
  ·rename_i k hu ha
   cases h
   rw[hu]
   unfold valOf at hvx hvy
   rw[ha] at hvx hvy
   match xs,ys,hx,hy,hvx,hvy with
   | [.int k1 a],[.int k2 b],hx,hy,hvx,hvy=>
    cases hvx; cases hvy
    have e1:k=k1:=hx.1
    have e2:k=k2:=hy.1
    subst e1; subst e2
    have:zRs k k=true:=by cases k <;> rfl
    simp only[this,zvc,zTq,zug,Bool.and_true]
  ·rename_i hu ha
   cases h
   rw[hu]
   unfold valOf at hvx hvy
   rw[ha] at hvx hvy
   match xs,ys,hx,hy,hvx,hvy with
   | [.string a],[.string b],_,_,hvx,hvy=>cases hvx; cases hvy; simp[zvc,zTq]
  ·rename_i fs hu ha
   rw[hu]
   unfold valOf at hvx hvy
   rw[ha] at hvx hvy
   cases hvx; cases hvy
   split at h
   ·cases h
   ·rename_i hst
    simp only
    rw[if_neg hst]
    have:=zlp ih xs ys fs.toList 0 ks h hx hy
    simpa using this
  ·rename_i n e hu ha
   rw[hu]
   unfold valOf at hvx hvy
   rw[ha] at hvx hvy
   cases hvx; cases hvy
   split at h
   ·rename_i m ks1 hs hf
    split at h
    ·rename_i hl
     cases h
     have hl:=Nat.eq_of_beq_eq_true hl
     simp only[hs]
     have:=zUq ih hs hf hl xs ys n 0 (by simpa using hx) (by simpa using hy)
     simpa using this
    ·cases h
   ·cases h
  ·cases h
theorem zFt{t:TypeId}{c:Bool}{ks:List CK}{xs ys:List Value}(hk:flatK P 100 t=some ks)(ha:zUe P t=some true)(hg:P.eqGuardType P.depth t=false)(hx:Fit ks xs)(hy:Fit ks ys):(zma P .neq t c).f (.agg xs.toArray) (.agg ys.toArray)=some (.bool !(zvc xs ys)):=by
 show (if zLh P t c (.agg xs.toArray) (.agg ys.toArray) then (eqA P 100 t (.agg xs.toArray) (.agg ys.toArray)).map (fun r=>Value.bool !r) else none)=_
 have h1:zLh P t c (.agg xs.toArray) (.agg ys.toArray)=true:=by show (!P.eqGuardType P.depth t)=true; rw[hg]; rfl
 rw[if_pos h1,zMw 100 100 (Nat.le_refl _) t ks xs ys _ _ hk hx hy (by unfold valOf; rw[ha]) (by unfold valOf; rw[ha])]
 rfl
end
end Go.Ab
namespace Go.Ab
open Go
set_option linter.unusedVariables false
set_option linter.unusedSectionVars false
def wdU:IntKind→Nat
 | .u8=>8
 | .u16=>16
 | .u32=>32
 | .u64=>64
 | _=>0
def isU:IntKind→Bool
 | .u8=>true
 | .u16=>true
 | .u32=>true
 | .u64=>true
 | _=>false
def szU(k:IntKind):Nat:=2 ^ wdU k
abbrev zsb(k:IntKind)(a:Nat):Value:=.int k (a:Int)
section
variable[Orc]{P:Program}{k k':IntKind}{t:TypeId}{c:Bool}{a b n:Nat}{H:Heap}
theorem zcj(hk:isU k=true):zqc k (a:Int)=((a % szU k:Nat):Int):=by cases k <;> first|(cases hk; done)|rfl
theorem zmp(hk:isU k=true):zah k (a:Int)=a % szU k:=by cases k <;> first|(cases hk; done)|rfl
theorem zie(hk:isU k=true)(ha:a < szU k)(hb:b < szU k):(zma P .and t c).f (zsb k a) (zsb k b)=some (zsb k (a &&& b)):=by
 rw[zec _ _ rfl]
 show some (Value.int k (zqc k ((Nat.land (zah k a) (zah k b):Nat):Int)))=_
 rw[zmp hk,zmp hk,Nat.mod_eq_of_lt ha,Nat.mod_eq_of_lt hb,zcj hk,Nat.mod_eq_of_lt (show Nat.land a b < szU k from Nat.and_lt_two_pow a hb)]; rfl
theorem znp(hk:isU k=true)(ha:a < szU k)(hb:b < szU k):(zma P .or t c).f (zsb k a) (zsb k b)=some (zsb k (a ||| b)):=by
 rw[zec _ _ rfl]
 show some (Value.int k (zqc k ((Nat.lor (zah k a) (zah k b):Nat):Int)))=_
 rw[zmp hk,zmp hk,Nat.mod_eq_of_lt ha,Nat.mod_eq_of_lt hb,zcj hk,Nat.mod_eq_of_lt (show Nat.lor a b < szU k from Nat.or_lt_two_pow ha hb)]; rfl
theorem zTb(hk:isU k=true)(ha:a < szU k)(hb:b < szU k):(zma P .xor t c).f (zsb k a) (zsb k b)=some (zsb k (a ^^^ b)):=by
 rw[zec _ _ rfl]
 show some (Value.int k (zqc k ((Nat.xor (zah k a) (zah k b):Nat):Int)))=_
 rw[zmp hk,zmp hk,Nat.mod_eq_of_lt ha,Nat.mod_eq_of_lt hb,zcj hk,Nat.mod_eq_of_lt (show Nat.xor a b < szU k from Nat.xor_lt_two_pow ha hb)]; rfl
theorem zOc(hk:isU k=true):(zma P .add t c).f (zsb k a) (zsb k b)=some (zsb k ((a+b) % szU k)):=by
 rw[zPz,show (a:Int)+(b:Int)=((a+b:Nat):Int) by simp,zcj hk]
theorem zis(hk:isU k=true):(zma P .mul t c).f (zsb k a) (zsb k b)=some (zsb k ((a * b) % szU k)):=by
 rw[zRz,show (a:Int) * (b:Int)=((a * b:Nat):Int) by simp,zcj hk]
theorem zjs(hk:isU k=true)(h:b≤a)(ha:a < szU k):(zma P .sub t c).f (zsb k a) (zsb k b)=some (zsb k (a - b)):=by
 rw[zQz,show (a:Int) - (b:Int)=((a - b:Nat):Int) by omega,zcj hk,Nat.mod_eq_of_lt (by omega)]
theorem zAg(hb:0 < b):(zma P .rem t c).f (zsb k a) (zsb k b)=some (zsb k (a % b)):=by
 rw[zfs (by omega)]
 rw[show (a:Int).tmod (b:Int)=((a % b:Nat):Int) from rfl]
theorem zNw(hk:isU k=true)(hb:0 < b)(ha:a < szU k):(zma P .quo t c).f (zsb k a) (zsb k b)=some (zsb k (a / b)):=by
 rw[zec _ _ rfl]
 show (match eqB (b:Int) 0 with|true=>none|false=>some (Value.int k (zqc k ((a:Int).tdiv b))))=_
 rw[zug,decide_eq_false (by omega)]
 show some (Value.int k (zqc k ((a / b:Nat):Int)))=_
 rw[zcj hk,Nat.mod_eq_of_lt (Nat.lt_of_le_of_lt (Nat.div_le_self _ _) ha)]
theorem zLl(hk:isU k=true)(hn:n≤wdU k):(zma P .shl t c).f (zsb k a) (zsb k' n)=some (zsb k (a * 2 ^ n % szU k)):=by
 show zGo true k a n=_
 have hb:k.bits=wdU k:=by cases k <;> first|(cases hk; done)|rfl
 unfold zGo
 rw[if_neg (by omega),if_pos rfl,Int.toNat_natCast,hb,Nat.min_eq_left hn,show (a:Int) * ((2 ^ n:Nat):Int)=((a * 2 ^ n:Nat):Int) by simp,zcj hk]
theorem zzf(hk:isU k=true)(hn:n≤wdU k):(zma P .shr t c).f (zsb k a) (zsb k' n)=some (zsb k (a / 2 ^ n)):=by
 show zGo false k a n=_
 have hb:k.bits=wdU k:=by cases k <;> first|(cases hk; done)|rfl
 unfold zGo
 rw[if_neg (by omega),if_neg (by simp),Int.toNat_natCast,hb,Nat.min_eq_left hn,← Int.ofNat_fdiv]
theorem zgF{w:Nat}(ha:a < 2 ^ w):(2 ^ w - 1) ^^^ a=2 ^ w - 1 - a:=by
 apply Nat.eq_of_testBit_eq
 intro i
 rw[show 2 ^ w - 1 - a=2 ^ w - (a+1) by omega,Nat.testBit_two_pow_sub_succ ha,Nat.testBit_xor,Nat.testBit_two_pow_sub_one]
 by_cases h:i < w
 ·simp[h]
 ·have:Nat.testBit a i=false:=Nat.testBit_lt_two_pow (Nat.lt_of_lt_of_le ha (Nat.pow_le_pow_right (by omega) (by omega)))
  simp[h,this]
theorem zhF(hk:isU k=true)(ha:a < szU k):unA .xor (zsb k a)=some (zsb k (szU k - 1 - a)):=by
 show some (Value.int k (zqc k ((Nat.xor (zah k (if k.signed then -1 else k.max)) (zah k (a:Int)):Nat):Int)))=_
 have hm:zah k (if k.signed then -1 else k.max)=szU k - 1:=by cases k <;> first|(cases hk; done)|rfl
 rw[hm,zmp hk,Nat.mod_eq_of_lt ha,zcj hk,show Nat.xor (szU k - 1) a=(2 ^ wdU k - 1) ^^^ a from rfl,zgF ha,Nat.mod_eq_of_lt (by unfold szU at *; omega)]
 rfl
theorem cvU(hk:isU k'=true):zhf k' (zsb k a) H=some (zsb k' (a % szU k'),H):=by
 show some (Value.int k' (zqc k' (a:Int)),H)=_
 rw[zcj hk]
theorem zAJ(h:a≤9223372036854775807):zhf .i64 (zsb k a) H=some (int a,H):=zfF (by omega) (by omega)
theorem zUC:(zma P .eql t c).f (zsb k a) (zsb k b)=some (.bool (decide (a=b))):=by rw[zib]; congr 2; exact decide_eq_decide.2 Int.ofNat_inj
end
end Go.Ab
namespace Go.Ab
open Go
set_option linter.unusedVariables false
set_option linter.unusedSectionVars false
abbrev by8(xs:List Int):List Value:=xs.map (Value.int .u8)
def RdB(Γ:List (Nat × Blk))(v:Value)(xs:List Int):Prop:=
 (v=zBa∧xs=[])∨∃ p o c,v=sl p o xs.length c∧(c=2∨c=3)∧(xs=[]∨∃ (j:Nat) (b:Blk),Γ[j]?=some (p,b)∧(b.cells.drop o).take xs.length=by8 xs)
def OwnB(v:Value)(xs:List Int)(cs:List Value):Prop:=
 (v=zBa∧xs=[]∧cs=[])∨∃ p,(v=sl p 0 xs.length 2∨(v=sl p 0 xs.length 3∧cs.length=xs.length))∧cs.take xs.length=by8 xs∧xs.length≤cs.length∧cs.all zSa=true
section
variable[Orc][LpC]{P:Program}{H:Heap}{Γ Δ:List (Nat × Blk)}{v x:Value}{xs ys:List Int}{cs:List Value}{K:Value→Heap→Prop}
theorem RdB.nil:RdB Γ zBa []:=.inl ⟨rfl,rfl⟩
theorem RdB.shape(h:RdB Γ v xs):∃ a n c,v=.slice a n c:=by
 rcases h with⟨rfl,_⟩|⟨p,o,c,rfl,_⟩ <;> exact⟨_,_,_,rfl⟩
theorem RdB.lenSl(h:RdB Γ v xs):lenSl v H=some (int xs.length,H):=by
 rcases h with⟨rfl,rfl⟩|⟨p,o,c,rfl,_⟩ <;> rfl
theorem RdB.lenA(h:RdB Γ v xs):lenA v=some xs.length:=by
 rcases h with⟨rfl,rfl⟩|⟨p,o,c,rfl,_⟩ <;> rfl
theorem RdB.app(h:RdB Γ v xs):RdB (Γ++Δ) v xs:=by
 rcases h with h|⟨p,o,c,h1,h2,h3|⟨j,b,h3,h4⟩⟩
 ·exact .inl h
 ·exact .inr ⟨p,o,c,h1,h2,.inl h3⟩
 ·exact .inr ⟨p,o,c,h1,h2,.inr ⟨j,b,zwa h3,h4⟩⟩
theorem RdB.app'(h:RdB Δ v xs):RdB (Γ++Δ) v xs:=by
 rcases h with h|⟨p,o,c,h1,h2,h3|⟨j,b,h3,h4⟩⟩
 ·exact .inl h
 ·exact .inr ⟨p,o,c,h1,h2,.inl h3⟩
 ·exact .inr ⟨p,o,c,h1,h2,.inr ⟨Γ.length+j,b,zua h3,h4⟩⟩
theorem OwnB.nil:OwnB zBa [] []:=.inl ⟨rfl,rfl,rfl⟩
theorem OwnB.rd(h:OwnB v xs cs):RdB (zhb v cs) v xs:=by
 rcases h with⟨rfl,rfl,rfl⟩|⟨p,rfl|⟨rfl,_⟩,h2,h3⟩
 ·exact .nil
 ·exact .inr ⟨p,0,2,rfl,.inl rfl,.inr ⟨0,⟨cs,true⟩,rfl,by rw[List.drop_zero]; exact h2⟩⟩
 ·exact .inr ⟨p,0,3,rfl,.inr rfl,.inr ⟨0,⟨cs,true⟩,rfl,by rw[List.drop_zero]; exact h2⟩⟩
theorem OwnB.lenSl(h:OwnB v xs cs):lenSl v H=some (int xs.length,H):=h.rd.lenSl
theorem zVC{b:Blk}{o:Nat}(hx:xs≠[])(h:(b.cells.drop o).take xs.length=by8 xs):b.cells≠[]:=by
 intro e
 rw[e] at h
 simp at h
 exact hx h
theorem zcA{b:Blk}{o:Nat}(h:(b.cells.drop o).take xs.length=by8 xs):xs.length≤b.cells.length - o:=by
 have:=congrArg List.length h
 simp at this
 omega
theorem RdB.elems(hO:St H Γ)(h:RdB Γ v xs):zSi H 1 xs.length v=some (by8 xs):=by
 rcases h with⟨rfl,rfl⟩|⟨p,o,c,rfl,_,rfl|⟨j,b,h3,h4⟩⟩
 ·rfl
 ·rfl
 ·by_cases hx:xs=[]
  ·subst hx; rfl
  ·rw[zcs (hO.at j h3 (.inr (zVC hx h4))) (by have:=zcA h4; have:0 < xs.length:=List.length_pos_iff.2 hx; omega),Nat.mul_one,h4]
theorem RdB.at(h:RdB Γ v xs){i:Nat}(hi:i < xs.length):∃ (p o c j:Nat) (b:Blk),v=sl p o xs.length c∧Γ[j]?=some (p,b)∧b.cells[o+i]?=some (Value.int .u8 xs[i]):=by
 rcases h with⟨rfl,rfl⟩|⟨p,o,c,rfl,_,rfl|⟨j,b,h3,h4⟩⟩
 ·simp at hi
 ·simp at hi
 ·refine⟨p,o,c,j,b,rfl,h3,?_⟩
  have:=congrArg (·[i]?) h4
  simp[hi] at this
  exact this
theorem zdj(hO:St H (Γ++zhb v cs))(hv:OwnB v xs cs)(hx:RdB Γ x ys)(hl:xs.length+ys.length≤1000000000)
  (hk:∀ H' v' cs',St H' (Γ++zhb v' cs')→OwnB v' (xs++ys) cs'→K v' H'):opW (zEa 1 1 v x H) K:=by
 unfold zEa
 simp only[hx.lenA,hx.app.elems hO]
 by_cases hy:ys=[]
 ·subst hy
  rw[List.append_nil] at hk
  unfold zLc
  rcases hv with⟨rfl,rfl,rfl⟩|⟨p,rfl|⟨rfl,h1⟩,h2,h3⟩
  ·exact zCa (show some (zBa,H)=_ from rfl) (hk _ _ _ hO .nil)
  ·exact zCa (show some (sl p 0 xs.length 2,H)=_ from rfl) (hk _ _ _ hO (.inr ⟨p,.inl rfl,h2,h3⟩))
  ·exact zCa (show some (sl p 0 xs.length 3,H)=_ from rfl) (hk _ _ _ hO (.inr ⟨p,.inr ⟨rfl,h1⟩,h2,h3⟩))
 have hpos:0 < ys.length:=List.length_pos_iff.2 hy
 have hmb:Nat.beq ys.length 0=false:=by
  cases hb:Nat.beq ys.length 0 with
  | false=>rfl
  | true=>have:=Nat.eq_of_beq_eq_true hb; omega
 have h1:(by8 ys).all oneCell=true:=by simp[oneCell]
 have own':∀ p,OwnB (sl p 0 (xs.length+ys.length) 2) (xs++ys) (by8 xs++by8 ys):=fun p=>by
  refine .inr ⟨p,.inl (by rw[List.length_append]),?_,by simp,by simp[zSa,zGd]⟩
  rw[List.take_of_length_le (by simp)]
  exact (List.map_append).symm
 unfold zLc
 rcases hv with⟨rfl,rfl,rfl⟩|⟨p,hv,h2,h3,h4⟩
 ·simp only[hmb,Bool.false_eq_true,if_false]
  rw[if_pos (zaj (by omega) (by omega))]
  have hO:St H Γ:=by simpa [zhb] using hO
  refine zCa (show zob (by8 ys) ys.length (2 * 1) H=some (sl H.next 0 ys.length 2,H.push (by8 ys)) from rfl) (hk _ _ (by8 ys) (hO.push _) ?_)
  have:=own' H.next
  simpa using this
 ·have hΓ:zhb v cs=[(p,⟨cs,true⟩)]:=by rcases hv with rfl|⟨rfl,_⟩ <;> rfl
  rw[hΓ] at hO
  have hi:(Γ++[(p,(⟨cs,true⟩:Blk))])[Γ.length]?=some (p,⟨cs,true⟩):=by simp
  have hget:=hO.at _ hi (.inl rfl)
  rcases hv with rfl|⟨rfl,hlen⟩
  ·have her:=hO.erase hi
   have he:(Γ++[(p,(⟨cs,true⟩:Blk))]).eraseIdx Γ.length=Γ:=by
    rw[List.eraseIdx_append_of_length_le (Nat.le_refl _)]; simp
   rw[he] at her
   simp only[hmb,Bool.false_eq_true,if_false]
   rw[if_pos (zaj (by omega) (by omega))]
   rw[if_neg (show ¬ Nat.beq 2 (2 * 1+1)=true by decide),if_pos (show Nat.beq 2 (2 * 1)=true by decide)]
   unfold zCe
   rw[hget]
   have e:(Heap.mayWrite H p ⟨cs,true⟩ && (Nat.ble (0+xs.length * 1) (zce cs) && zRi oneCell (by8 ys)))=true:=by
    unfold Heap.mayWrite
    rw[hO.fl,zFa,zpb,h1,zAb,zAb,decide_eq_true (by omega:0+xs.length * 1≤cs.length)]
    simp
   simp only[e]
   have e2:zhg (zXj (takeN cs (0+xs.length * 1)) 0) (by8 ys)=by8 xs++by8 ys:=by
    rw[zQa,ztb,zlb,Nat.zero_add,Nat.mul_one,h2]; rfl
   rw[e2]
   exact zCa (show zob (by8 xs++by8 ys) (xs.length+ys.length) (2 * 1) (H.set p none)=some (sl H.next 0 (xs.length+ys.length) 2,(H.set p none).push (by8 xs++by8 ys)) from rfl) (hk _ _ _ (her.push _) (own' _))
  ·simp only[hmb,Bool.false_eq_true,if_false]
   rw[if_pos (zaj (by omega) (by omega))]
   rw[if_pos (show Nat.beq 3 (2 * 1+1)=true by decide)]
   unfold zUc
   have hcs:cs=by8 xs:=by rw[← hlen] at h2; rw[List.take_of_length_le (Nat.le_refl _)] at h2; exact h2
   have e3:(if Nat.beq xs.length 0=true then some [] else zhc H p 0 (xs.length * 1))=some (by8 xs):=by
    split
    ·rename_i h0
     have h0:=Nat.eq_of_beq_eq_true h0
     have:xs=[]:=List.length_eq_zero_iff.1 h0
     rw[this]; rfl
    ·rw[zVc]
     rw[hget]
     simp only[zJh,zlb,ztb,zFa,List.drop_zero,Nat.mul_one]
     rw[h2,List.length_map,Nat.beq_refl]
   rw[e3]
   simp only[zQa]
   exact zCa (show zob (by8 xs++by8 ys) (xs.length+ys.length) (2 * 1) H=some (sl H.next 0 (xs.length+ys.length) 2,H.push (by8 xs++by8 ys)) from rfl) (hk _ _ _ (hO.left.push _) (own' _))
theorem zPm{q:Nat}{w:Bool}(hO:St H ((Γ++zhb v cs)++[(q,⟨by8 ys,w⟩)]))(hv:OwnB v xs cs)(hl:xs.length+ys.length≤1000000000){n c:Nat}(hn:n=ys.length)(hc:c=2∨c=3)
  (hk:∀ H' v' cs',St H' (Γ++zhb v' cs')→OwnB v' (xs++ys) cs'→K v' H'):opW (zEa 1 1 v (sl q 0 n c) H) K:=by
 have hO2:St H ((Γ++[(q,⟨by8 ys,w⟩)])++zhb v cs):=hO.perm (by
  rw[List.append_assoc,List.append_assoc]
  exact List.Perm.append_left Γ List.perm_append_comm)
 refine zdj hO2 hv (ys:=ys) (.inr ⟨q,0,c,by rw[hn],hc,.inr ⟨Γ.length,⟨by8 ys,w⟩,by simp,?_⟩⟩) hl ?_
 ·rw[List.drop_zero]; exact List.take_of_length_le (by simp)
 ·intro H' v' cs' hO' hv'
  exact hk H' v' cs' (St.sub hO' (List.Sublist.append (List.sublist_append_left _ _) (List.Sublist.refl _))) hv'
theorem RdB.tl{y:Nat × Blk}{B:List (Nat × Blk)}(h:RdB B v xs):RdB (Γ++(y::B)) v xs:=by
 have:=h.app' (Γ:=Γ++[y])
 rw[List.append_assoc] at this
 exact this
theorem zBJ{n:Int}(h0:0≤n)(h1:n < 18446744073709551616):zhf .u64 (int n) H=some (zsb .u64 n.toNat,H):=by
 obtain⟨m,rfl⟩:∃ m:Nat,n=m:=⟨n.toNat,by omega⟩
 show some (Value.int .u64 (zqc .u64 (m:Int)),H)=_
 rw[zcj rfl,Int.toNat_natCast,Nat.mod_eq_of_lt (show m < szU .u64 from (show m < 18446744073709551616 by omega))]
theorem zdA{k:IntKind}{n:Int}(h0:0≤n):Value.int k n=zsb k n.toNat:=by unfold zsb; rw[Int.toNat_of_nonneg h0]
theorem zGt{p o n:Nat}{b:Blk}(hO:St H Γ)(i:Nat)(hi:Γ[i]?=some (p,b))(hp:0 < n)(hn:o+n≤b.cells.length):zhd n 1 (ptr p o) none none none H=some (sl p o n 3):=by
 have hg:=hO.at i hi (.inr (by intro e; rw[e] at hn; simp at hn; omega))
 unfold zhd
 simp only[hg,Nat.mul_one,zFa]
 rw[Nat.ble_eq_true_of_le hn]
 simp[zkc,zkd,ztl,zCd]
theorem bytesOf(xs:List Int):zfe (by8 xs)=some (xs.map fun n=>UInt8.ofNat n.toNat):=by
 induction xs with
 | nil=>rfl
 | cons x r ih=>show (zfe (by8 r)).map _=_; rw[ih]; rfl
def zdH(xs:List Int):Value:=.string ⟨(xs.map fun n=>UInt8.ofNat n.toNat).toArray⟩
theorem RdB.str(hO:St H Γ)(h:RdB Γ v xs):zjc v H=some (zdH xs,H):=by
 have he:=h.elems hO
 rcases h with⟨rfl,rfl⟩|⟨p,o,c,rfl,_⟩
 ·rfl
 ·unfold zjc
  simp only
  split
  ·rename_i h0
   have h0:=Nat.eq_of_beq_eq_true h0
   have:xs=[]:=List.length_eq_zero_iff.1 h0
   subst this; rfl
  ·rename_i h0
   unfold zSi at he
   simp only[Nat.mul_one] at he
   rw[if_neg h0] at he
   rw[he]
   simp only[bytesOf]
   rfl
theorem zWC{o n c:Nat}{p:Nat}{h:Int}(h0:0≤h)(h1:h≤n)(hc:c=2∨c=3):∃ c',(c'=2∨c'=3)∧zWa 1 (sl p o n c) none (some (int h)) none=some (sl p o h.toNat c'):=by
 obtain⟨m,rfl⟩:∃ m:Nat,h=m:=⟨h.toNat,by omega⟩
 have hb:zkc n (some (int (m:Int)))=some m:=by
  show (match leB 0 (m:Int) with|true=>(match Nat.ble (m:Int).toNat n with|true=>some (m:Int).toNat|false=>none)|false=>none)=_
  rw[zbc,decide_eq_true (by omega)]
  simp only[Int.toNat_natCast]
  rw[Nat.ble_eq_true_of_le (by omega)]
 rcases hc with rfl|rfl
 ·refine⟨2,.inl rfl,?_⟩
  unfold zWa
  simp only[hb]
  simp[zkd,ztl,zCd]
 ·refine⟨cond (Nat.beq m n) 3 2,by cases Nat.beq m n <;> simp,?_⟩
  unfold zWa
  simp only[hb]
  simp[zkd,ztl,zCd]
end
end Go.Ab
namespace Go.Ab
open Go
local instance:Base:=⟨fun _=>none,0⟩
set_option linter.unusedVariables false
set_option linter.unusedSectionVars false
section
variable[Orc]{P:Program}{H:Heap}{Γ:List (Nat × Blk)}
abbrev lpc(l:Nat)(r:Lp)(L:LpC):LpC:=⟨(l,r)::L.l⟩
theorem zeH{L:LpC}(h:@St L H Γ):H.floor=0:=@St.fl L H Γ h
theorem zBI{L:LpC}(h:@St L H Γ):H.t.Up H.next:=@St.up L H Γ h
theorem zNI{L:LpC}(h:@St L H Γ):(Γ.map (·.1)).Nodup:=@St.nd L H Γ h
theorem zCI{L:LpC}(h:@St L H Γ):∀ x ∈ Γ,x.1 < H.next:=@St.lt L H Γ h
theorem ziF{L:LpC}(h:@St L H Γ):∀ x ∈ Γ,(x.2.wr=true∨x.2.cells≠[])→H.get x.1=some x.2:=@St.get L H Γ h
theorem zeA{L:LpC}(h:@St L H Γ):H.lps=L.l:=@St.lps L H Γ h
theorem zfA{L:LpC}(h:@St L H Γ):∀ x ∈ L.l,x.1 < H.next:=@St.lpn L H Γ h
theorem zjF{L:LpC}(h:@St L H Γ)(T:List Value)(ps:List Tmp)(asg body:Code):@St (lpc (Nat.succ H.next) ⟨T,ps,asg,body,.ready⟩ L) (laid T ps asg body H) Γ:=by
 have u1:(H.t.set H.next none).Up (H.next+1):=fun m hm=>by
  by_cases he:m=H.next
  ·subst he; exact (Tr.up_set _ _ _ (zBI h)).2
  ·exact Tr.in_set _ _ _ _ ((zBI h) m (by omega))
 have u2:((H.t.set H.next none).set (Nat.succ H.next) none).Up (H.next+2):=fun m hm=>by
  by_cases he:m=Nat.succ H.next
  ·subst he; exact (Tr.up_set _ _ _ u1).2
  ·exact Tr.in_set _ _ _ _ (u1 m (by omega))
 have f1:=zeH h
 have f2:=zNI h
 refine @St.mk (lpc (Nat.succ H.next) ⟨T,ps,asg,body,.ready⟩ L) (laid T ps asg body H) Γ f1 u2 f2 (fun x hx=>?_) (fun x hx hw=>?_) ?_ (fun x hx=>?_)
 ·have:=(zCI h) x hx; show x.1 < H.next+2; omega
 ·have:=(zCI h) x hx
  show ((H.t.set H.next none).set (Nat.succ H.next) none).get x.1=some x.2
  rw[Tr.get_set_other _ _ _ _ (by omega),Tr.get_set_other _ _ _ _ (by omega)]; exact (ziF h) x hx hw
 ·show (_,_)::H.lps=_; rw[(zeA h)]; rfl
 ·rcases List.mem_cons.1 hx with rfl|hx
  ·show H.next+1 < H.next+2; omega
  ·have:=(zfA h) x hx; show x.1 < H.next+2; omega
theorem zfH{L:LpC}{l:Nat}{r:Lp}(h:@St (lpc l r L) H Γ):@St L ⟨H.t,H.next,H.floor,L.l⟩ Γ:=by
 have f1:=zeH h
 have f2:=zBI h
 have f3:=zNI h
 have f4:=zCI h
 have f5:=ziF h
 have f6:=zfA h
 exact @St.mk L ⟨H.t,H.next,H.floor,L.l⟩ Γ f1 f2 f3 f4 f5 rfl (fun x hx=>f6 x (List.mem_cons_of_mem _ hx))
theorem zNJ{L L':LpC}(h:@St L H Γ)(hl:∀ x ∈ L'.l,x.1 < H.next):@St L' ⟨H.t,H.next,H.floor,L'.l⟩ Γ:=by
 have f1:=zeH h
 have f2:=zBI h
 have f3:=zNI h
 have f4:=zCI h
 have f5:=ziF h
 exact @St.mk L' ⟨H.t,H.next,H.floor,L'.l⟩ Γ f1 f2 f3 f4 f5 rfl hl
theorem zgA{L:LpC}{l:Nat}{r:Lp}{st:LpSt}(h:@St (lpc l r L) H Γ):∃ H2,mark l st H=some H2∧@St (lpc l ⟨r.T,r.ps,r.asg,r.body,st⟩ L) H2 Γ:=by
 refine⟨⟨H.t,H.next,H.floor,(lpc l ⟨r.T,r.ps,r.asg,r.body,st⟩ L).l⟩,?_,zNJ h fun x hx=>?_⟩
 ·unfold mark
  have e:H.lps=(l,r)::L.l:=(zeA h)
  rw[show Nat.ble H.floor l=true by rw[(zeH h)]; exact Nat.ble_eq_true_of_le (Nat.zero_le l),e,zXc,if_pos rfl]
  simp only
  have:zLu ((l,r)::L.l) l ⟨r.T,r.ps,r.asg,r.body,st⟩=(l,⟨r.T,r.ps,r.asg,r.body,st⟩)::L.l:=by
   show cond (Nat.beq l l) _ _=_
   rw[Nat.beq_refl]; rfl
  rw[this]; rfl
 ·rcases List.mem_cons.1 hx with rfl|hx
  ·exact (zfA h) (l,r) List.mem_cons_self
  ·exact (zfA h) x (List.mem_cons_of_mem _ hx)
theorem zhA{L:LpC}{l:Nat}{T:List Value}{ps:List Tmp}{asg body:Code}{K:Heap→Prop}(h:@St (lpc l ⟨T,ps,asg,body,.ready⟩ L) H Γ)(hk:∀ H2,@St (lpc l ⟨T,ps,asg,body,.busy⟩ L) H2 Γ→K H2):zGw l H K:=by
 obtain⟨H2,h1,h2⟩:=zgA (st:=.busy) h
 refine⟨H2,?_,hk H2 h2⟩
 unfold zLo
 have e:H.lps=(l,(⟨T,ps,asg,body,.ready⟩:Lp))::L.l:=(zeA h)
 rw[e,zXc,if_pos rfl]
 exact h1
theorem zkF{L:LpC}{l:Nat}{r:Lp}{e:Ex}{K:Value→Heap→Prop}(h:@St (lpc l r L) H Γ)(hk:∀ H2,@St (lpc l ⟨r.T,r.ps,r.asg,r.body,zzG e⟩ L) H2 Γ→K (.bool (zln e)) H2):zaH l e H K:=by
 obtain⟨H2,h1,h2⟩:=zgA (st:=zzG e) h
 exact⟨H2,h1,hk H2 h2⟩
theorem zXC{L:LpC}{n l:Nat}{ps:List Tmp}{asg body:Code}{vals args T:List Value}{K:Value→Heap→Prop}(h:@St (lpc l ⟨T,ps,asg,body,.ready⟩ L) H Γ)(hT:T.length=n)
  (hag:zGl (bits n (zHl asg body)) (zgf (bits n (zHl asg body)) vals) T) (hlen:args.length=ps.length) (hps:ps.all (· < n)=true) (hv:znv P n ps asg body vals args l H K):wT P (.round l args H) K:=by
 refine zqv ?_ hT hag hlen (fun p hp=>?_) hv
 ·have e:H.lps=(l,(⟨T,ps,asg,body,.ready⟩:Lp))::L.l:=(zeA h)
  rw[e,zXc,if_pos rfl]
 ·have:=List.all_eq_true.1 hps p hp
  exact of_decide_eq_true this
theorem ziA:∀ (l:List (Nat × Lp)) (i:Nat),(∀ x ∈ l,x.1 < i)→zNe l i=none
 | [],_,_=>rfl
 | x::r,i,h=>by
  have:=h x List.mem_cons_self
  rw[zXc,if_neg (by omega)]
  exact ziA r i fun y hy=>h y (List.mem_cons_of_mem _ hy)
def zCJ:LpSt→Ex
 | .over e=>e
 | _=>.normal
theorem zYC{L:LpC}{n:Nat}{ps:List Tmp}{asg body:Code}{vals args:List Value}{g:Value}{f:FuncId}{N:Heap→Prop}{Qx:Nat→Heap→Prop}{Qr:Heap→Prop}(h:@St L H Γ)(hg:zIf g [zkn (Nat.succ H.next)]=some (.fn f args))
  (hc:∀ T,T.length=n→zGl (bits n (zHl asg body)) (zgf (bits n (zHl asg body)) vals) T→∀ H0,@St (lpc (Nat.succ H.next) ⟨T,ps,asg,body,.ready⟩ L) H0 Γ→wCall P f args H0 fun _ H1=>
   ∃ (st:LpSt) (Γ':List (Nat × Blk)),st≠.busy∧@St (lpc (Nat.succ H.next) ⟨T,ps,asg,body,st⟩ L) H1 Γ'∧∀ H2,@St L H2 Γ'→exR N Qx Qr (zCJ st) H2):zFw P n ps asg body vals g H N Qx Qr:=by
 intro T hT hag
 obtain⟨m,ex,v,H1,hr,st,Γ',hst,hS,hk⟩:=hc T hT hag _ (zjF h T ps asg body)
 refine⟨m,⟨zCJ st,T,⟨H1.t,H1.next,H1.floor,L.l⟩⟩,?_,rfl,hk _ (zfH hS)⟩
 unfold zXi
 rw[hg]
 simp only
 rw[hr]
 simp only
 unfold zEr
 have e:H1.lps=(Nat.succ H.next,(⟨T,ps,asg,body,st⟩:Lp))::L.l:=(zeA hS)
 have hno:zNe L.l (Nat.succ H.next)=none:=ziA _ _ fun x hx=>by have:=(zfA h) x hx; omega
 rw[e]
 simp only
 rw[Nat.beq_refl,show Nat.ble H1.floor (Nat.succ H.next)=true by rw[(zeH hS)]; exact Nat.ble_eq_true_of_le (Nat.zero_le _)]
 simp only[Bool.and_self,hno]
 cases st with
 | ready=>rfl
 | busy=>exact absurd rfl hst
 | over e=>rfl
theorem zZC{l:Nat}{args:List Value}{K:Value→Heap→Prop}(h:wT P (.round l args H) K):zmE P (zIf (zkn l) args) H K:=h
section
variable{k:IntKind}{t:TypeId}{c:Bool}{a b:Int}{p o n size:Nat}{i:Int}{q:Prop}[Decidable q]{x y:Value}{A B:Prop}
theorem qa(h1:-9223372036854775808≤a+b:=by omega)(h2:a+b≤9223372036854775807:=by omega):(zma P .add t c).f (.int .i64 a) (.int .i64 b)=some (.int .i64 (a+b)):=zYa h1 h2
theorem qs(h1:-9223372036854775808≤a - b:=by omega)(h2:a - b≤9223372036854775807:=by omega):(zma P .sub t c).f (.int .i64 a) (.int .i64 b)=some (.int .i64 (a - b)):=zub h1 h2
theorem qi{c:Nat}(h0:0≤i:=by omega)(h1:i < n:=by omega):zld size (sl p o n c) (.int k i)=some (ptr p (o+i.toNat * size)):=zfb h0 h1
theorem qj(h0:0≤i:=by omega)(h1:i < n:=by omega):zDa n size (ptr p o) (.int k i)=some (ptr p (o+i.toNat * size)):=zqa h0 h1
theorem qy(h:q:=by first|assumption|omega):zla (.bool (decide q)) x y=some x:=zNb h
theorem qn(h:¬ q:=by first|assumption|omega):zla (.bool (decide q)) x y=some y:=zuc h
theorem wy(hA:A)(h:q:=by first|assumption|omega):wIf (.bool (decide q)) A B:=zUz h hA
theorem wn(hB:B)(h:¬ q:=by first|assumption|omega):wIf (.bool (decide q)) A B:=zVz h hB
end
theorem ld[LpC]{L:List (Nat × Blk)}{p o:Nat}{b:Blk}{v:Value}{K:Value→Heap→Prop}(h:St H (Γ++L))(k:Nat)(hi:L[k]?=some (p,b))(hv:b.cells[o]?=some v)(hk:K v H):opW (zba (ptr p o) H) K:=zga h (Γ.length+k) (zua hi) hv hk
section
variable{q:Prop}[Decidable q]{A B:Prop}{H:Heap}
theorem oi{r:Option Value}{v:Value}{K:Value→Prop}(hk:K v)(h:r=some v:=by first|exact qa|exact qs|exact zda|exact zca|exact zib|exact zGb|exact zIa|exact zLf|exact zrv|exact zMf|exact zmc|exact zwb|exact zVa|exact qy|exact qn|exact qi|exact qj):opP r K:=⟨v,h,hk⟩
theorem ow{r:R}{v:Value}{H':Heap}{K:Value→Heap→Prop}(hk:K v H')(h:r=some (v,H'):=by first|exact zzg|exact zQx|exact zOC):opW r K:=⟨v,H',h,hk⟩
theorem wt{b:Bool}(hA:A)(h:b=true:=by rfl):wIf (.bool b) A B:=zsc h hA
theorem wf'{b:Bool}(hB:B)(h:b=false:=by rfl):wIf (.bool b) A B:=zXa h hB
theorem cy{b:Bool}(hA:A)(h:b=true:=by rfl):cond b A B:=zKa h hA
theorem cn{b:Bool}(hB:B)(h:b=false:=by rfl):cond b A B:=zeF h hB
end
end
end Go.Ab
namespace Go.Ab
abbrev VH:Type:=Value→Heap→Prop
abbrev LN:Type:=List Value→Heap→Prop
abbrev LX:Type:=Nat→List Value→Heap→Prop
def LpI[Orc](P:Program)(C:Nat)(p:Code)(h:Nat)(F:List Value→Heap→LN→LX→LN→Prop):Prop:=∀ (I:LX) (Qx:LX) (Qr:LN),(∀ k l H,I k l H→F l H (fun l H=>∃ k',k' < k∧I k' l H) Qx Qr)→∀ k l H,I k l H→zdb P true C p h l H Qx Qr
theorem LpI.mk[Orc]{P:Program}{C:Nat}{p:Code}{h:Nat}{F:List Value→Heap→LN→LX→LN→Prop}(hf:live p (live p 0 h) h=live p 0 h)(he:∀ l H N Qx Qr,vcC P true C p (live p 0 h) h (zgf (bits C (live p 0 h)) l) H (zZG C p h N Qx Qr)=F l H N Qx Qr):LpI P C p h F:=
 fun I Qx Qr hs k l H hI=>zLC hf I (fun k l H h=>(he l H _ Qx Qr).mpr (hs k l H h)) k l H hI
end Go.Ab
