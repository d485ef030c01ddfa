/- texts of the nf, fh behind the mA -/
import Derived.OrdersIn
import Derived.RangeFuncLeaves
import Derived.LoopNIn
import Derived.RangeFuncRecord
import Derived.Below
import Derived.KernelRfl
import Derived.WalkKit
import Derived.ProofKit
import Derived.OpenShut
import Derived.Test.YtifflnhooaophaaGreatDoorAbA
set_option linter.unusedVariables false
set_option linter.unusedSimpArgs false
set_option linter.unusedSectionVars false
set_option maxHeartbeats 2000000
open List Nat
namespace Go.Ab
open Go
section
variable{P:Program}{σ:c8}{B:Nat}{h:Nat->Option ax}{H ab:au}{w:World}
def As(P:Program)(σ:c8):Prop:=∀g,g<P.globals.size->∃s,σ g=some (g,0,s)
theorem wJ{T:List Value}{a:Act}(bk:bL σ T a.tmps.toList)(eP:As P σ)(x:Operand)(ao:wt P x=true):cq σ ((ek x).g T) (a.eval x):=by
 cases x with
 | tmp t=>
  show cq σ (cf T t) (a.tmps.getD t undef);rw[pI];have:a.tmps.getD t undef=a.tmps.toList.getD t undef:=by simp
  rw[this];exact bk.getD t
 | const v=>exact wC ao
 | global g=>simp only[wt,qI,decide_eq_true_eq]at ao;obtain⟨s,al⟩:=eP g ao;exact .ai g 0 g 0 s al .nil
 | func f=>exact .func f _ _ _ _ .nil .nil .nil
theorem EC(l:List Operand)(T:List Value):kO l T=l.map fun x=>(ek x).g T:=by
 induction l with
 | nil=>rfl
 | cons x r bg=>simp_all[kO]
theorem Kc{T:List Value}{a:Act}(bk:bL σ T a.tmps.toList)(eP:As P σ)(l:List Operand)(aD:∀x∈l,wt P x=true):bL σ (kO l T) (l.map a.eval):=by
 induction l with
 | nil=>exact .nil
 | cons x r bg=>exact(wJ bk eP x (aD x (by simp))).cons (bg fun y ba=>aD y (by simp[ba]))
def Cr(P:Program)(B:Nat)(s:Sem Next)(w:World)(σ:c8)(h:Nat->Option ax)(H:au)(v:Value)(ab:au):Prop:=
 ∃r aQ aW τ,s.run P w=.ok r aW/\(r=.value aQ\/(r=.skip/\aQ=undef))/\cq τ v aQ/\lV B σ h H.next w τ (iE h H ab) ab.next aW
theorem ha.next{s:Sem Value}{v:Value}(aO:ha P B s w σ h H v ab):Cr P B (s >>= fun x=>Pure.pure (Next.value x)) w σ h H v ab:=by obtain⟨aQ,aW,τ,h1,h2,h3⟩:=aO;exact⟨.value aQ,aQ,aW,τ,by simp_all,.inl rfl,h2,h3⟩
theorem nH{x:Option Value}{v:Value}(U:fZ H x=some (v,ab)):ab=H/\x=some v:=by
 cases x with
 | none=>cases U
 | some u=>cases U;simp_all
theorem WA(ie:Array (Nat×Operand))(ρ:Operand->Value):(ie.map fun(i,x)=>(i,ρ x))=(ie.toList.map fun p=>(p.1,ρ p.2)).toArray:=by grind
theorem WC{T:List Value}{a:Act}(bk:bL σ T a.tmps.toList)(eP:As P σ)(l:List (Nat×Operand))(aD:∀p∈l,wt P p.2=true):
  (u7 l T).map (·.1)=(l.map fun p=>(p.1,a.eval p.2)).map (·.1)/\bL σ ((u7 l T).map (·.2)) ((l.map fun p=>(p.1,a.eval p.2)).map (·.2)):=by
 obtain⟨h1,h2⟩:=ako l T;refine⟨by rw[h1];simp,?_⟩;rw[h2];clear h1 h2;induction l with
 | nil=>exact .nil
 | cons p r bg=>exact(wJ bk eP p.2 (aD p (by simp))).cons (bg fun y ba=>aD y (by simp[ba]))
theorem Pb{T:List Value}{a:Act}(bk:bL σ T a.tmps.toList)(eP:As P σ)(x:Option Operand)(ao:∀y,x=some y->wt P y=true):yV σ (B0 x T) (x.map a.eval):=by
 cases x with
 | none=>exact .none
 | some y=>exact .some (wJ bk eP y (ao y rfl))
theorem Pc{g:Value->Value->au->R}{l:List Value}{r:Value×au}(U:ig g l H=some r):∃x y,l=[x,y]:=by
 unfold ig at U
 grind
theorem Pd{g:Value->au->R}{l:List Value}{r:Value×au}(U:fh g l H=some r):∃x,l=[x]:=by
 unfold fh at U
 grind
theorem Pe{t:TypeId}{x v:Value}(U:(Jp P t).f x H=some (v,ab)):ab=H/\∃e size,P.underlying t=some (.slice e)/\hk P e=some size/\∃a n c,x=.slice a n c/\((a=none/\n=0/\c=0/\v=.int .i64 0)\/(a≠none/\c=2*size+1/\v=.int .i64 n)):=by
 unfold Jp at U;split at U;rename_i e bf;split at U;rename_i size al;simp only[VO]at U;split at U;rename_i a n c;split at U;split at U;rename_i ak;rw[Bool.and_eq_true]at ak
 grind[eq_of_beq_eq_true]
 grind
 grind[eq_of_beq_eq_true]
 grind
 grind
 grind
theorem ak3{b:Builtin}{argTypes:Array TypeId}{de:TypeId}{WD:Array Bool}{l:List Value}{aA:Array Value}{v:Value}(al:ky σ B h w)(b6:B<=w.heap.size)(fp:∀i,H.next<=i->i<ab.next->σ i=none)
  (jX:(b=.append\/b=.copy\/b=.clear)->∀x∈l,vi h H x) (aD:bL σ l aA.toList) (U:(u5 P b argTypes.toList).f l H=some (v,ab)):Cr P B (builtin b argTypes de WD aA) w σ h H v ab:=by
 have Pf:∀x y,l=[x,y]->∃bR eW,aA=#[bR,eW]/\cq σ x bR/\cq σ y eW:=by
  intro x y e;subst e;obtain⟨bR,r,a7,ao,gD⟩:=aD.nF;obtain⟨eW,r2,bt,ba,jC⟩:=gD.nF;have ei:=jC.rE
  grind
 have Pg:∀x,l=[x]->∃bR,aA=#[bR]/\cq σ x bR:=by
  intro x e;subst e;obtain⟨bR,r,a7,ao,gD⟩:=aD.nF;have ei:=gD.rE
  grind
 unfold u5 at U;cases b<;>simp only at U<;>first|(cases U;done)|skip
 case append=>
  unfold Jr at U;split at U
  case h_2=>cases U
  case h_1 k0 k1 oM=>
  obtain rfl:argTypes=#[k0,k1]:=Array.ext' oM;split at U
  case h_1 wG=>
   have ht:∃x y,l=[x,y]:=by
    unfold Ef at U;split at U
    ·split at U
     ·split at U
      ·split at U
       ·exact Pc U
       grind
      grind
     grind
    grind
   obtain⟨x,y,rfl⟩:=ht;obtain⟨bR,eW,rfl,ao,ba⟩:=Pf x y rfl;exact(akD al b6 fp wG ao ba U).next
  case h_2=>
  have ht:∃x y,l=[x,y]:=by
   unfold Ee at U;simp only at U;split at U
   ·split at U
    ·split at U
     ·split at U
      ·exact Pc U
      grind
     grind
    grind
   grind
  obtain⟨x,y,rfl⟩:=ht;obtain⟨bR,eW,rfl,ao,ba⟩:=Pf x y rfl;exact(akF al b6 fp (jX (by simp) x (by simp)) (jX (by simp) y (by simp)) ao ba U).next
 case clear=>
  split at U
  ·rename_i t cN oM;obtain⟨x,rfl⟩:=Pd U;obtain⟨bR,rfl,ao⟩:=Pg x rfl;have aO:=akN (de:=de) al (jX (by simp) x (by simp)) ao U;have:Builtin.clear_ argTypes de #[bR]=Builtin.clear_ #[t] de #[bR]:=by
    have e:argTypes[0]?=some t:=by
     have:argTypes.toList[0]?=some t:=by grind
     grind
    simp_all[Builtin.clear_]
   show Cr P B (do pure (Next.value (<- Builtin.clear_ argTypes de #[bR]))) w σ h H v ab;rw[this];exact aO.next
  grind
 case copy=>
  have ht:∃s3,argTypes[0]?=some s3/\(∃x y,l=[x,y])/\(z6 P [s3,s3]).f l H=some (v,ab):=by
   unfold z6 at U;split at U
   ·rename_i s3 cN oM;refine⟨s3,?_,?_,?_⟩
    ·have:argTypes.toList[0]?=some s3:=by grind
     grind
    ·split at U
     ·split at U
      ·split at U
       ·exact Pc U
       grind
      grind
     grind
    simp_all[z6]
   grind
  obtain⟨s3,aO,⟨x,y,rfl⟩,gD⟩:=ht;obtain⟨bR,eW,rfl,ao,ba⟩:=Pf x y rfl;have Ph:=akK (de:=de) al (jX (by simp) x (by simp)) (jX (by simp) y (by simp)) ao ba gD;have:Builtin.copy_ argTypes de #[bR,eW]=Builtin.copy_ #[s3,s3] de #[bR,eW]:=by grind[Builtin.copy_]
  show Cr P B (do pure (Next.value (<- Builtin.copy_ argTypes de #[bR,eW]))) w σ h H v ab;rw[this];exact Ph.next
 case len=>
  split at U
  ·rename_i t cN oM;obtain⟨x,rfl⟩:=Pd U;obtain⟨bR,rfl,ao⟩:=Pg x rfl;obtain⟨rfl,aO⟩:=akO (P:=P) (de:=de) (w:=w) ao U;have:Builtin.len_ argTypes de #[bR]=Builtin.len_ #[t] de #[bR]:=by
    have e:argTypes[0]?=some t:=by
     have:argTypes.toList[0]?=some t:=by grind
     grind
    simp_all[Builtin.len_]
   show Cr P B (do pure (Next.value (<- Builtin.len_ argTypes de #[bR]))) w σ h ab v ab;rw[this];exact(ha.pure al aO).next
  grind
 case cap=>
  split at U
  ·rename_i t cN oM;obtain⟨x,rfl⟩:=Pd U;obtain⟨bR,rfl,ao⟩:=Pg x rfl;have U:(Jp P t).f x H=some (v,ab):=U;obtain⟨rfl,e,size,bf,fc,a,n,c,rfl,aB⟩:=Pe U;have eX:argTypes[0]?=some t:=by
    have:argTypes.toList[0]?=some t:=by grind
    grind
   have aO:∃aQ,(Builtin.cap_ argTypes de #[bR]).run P w=.ok aQ w/\cq σ v aQ:=by
    unfold Builtin.cap_;rw[eX];rcases aB with⟨rfl,rfl,rfl,rfl⟩|⟨bn,rfl,rfl⟩
    ·cases ao
     simp_all[run_underlying,goInt,cq.int]
    ·generalize yX:2*size+1=cc at ao;cases ao
     case lg=>omega
     case o5=>simp_all[run_underlying,goInt,cq.int]
     omega
   show Cr P B (do pure (Next.value (<- Builtin.cap_ argTypes de #[bR]))) w σ h ab v ab;exact(ha.pure al aO).next
  grind
 case max=>
  obtain⟨rfl,hm⟩:=nH U;unfold pF at hm;cases l with
  | nil=>cases hm
  | cons x r=>
   simp only at hm;cases x<;>simp only at hm<;>first|(cases hm;done)|skip
   rename_i k n;obtain⟨bR,dY,a7,ao,gD⟩:=aD.nF;rw[ao.o6]at a7;obtain⟨h1,h2⟩:=Wu (P:=P) (w:=w) r dY n k v gD hm;refine(ha.pure al ⟨v,?_,h2⟩).next
   simp_all[Builtin.max_]
 case min=>
  obtain⟨rfl,hm⟩:=nH U;unfold oF at hm;cases l with
  | nil=>cases hm
  | cons x r=>
   simp only at hm;cases x<;>simp only at hm<;>first|(cases hm;done)|skip
   rename_i k n;obtain⟨bR,dY,a7,ao,gD⟩:=aD.nF;rw[ao.o6]at a7;obtain⟨h1,h2⟩:=Wt (P:=P) (w:=w) r dY n k v gD hm;refine(ha.pure al ⟨v,?_,h2⟩).next
   simp_all[Builtin.min_]
theorem ak4(o:Oper){T:List Value}{a:Act}{v:Value}(al:ky σ B h w)(b6:B<=w.heap.size)(eP:As P σ)(bk:bL σ T a.tmps.toList)(fp:∀i,H.next<=i->i<ab.next->σ i=none)
  (fq:kh (wt P) o.op.operands.toList=true) (jX:(ja P o.op=1\/ja P o.op=4)->∀x∈o.op.operands.toList,vi h H ((ek x).g T)) (U:(kP P o.op).f T H=some (v,ab)):Cr P B (execOp a.eval o) w σ h H v ab:=by
 rw[kH,all_eq_true]at fq;obtain⟨dst,op,type,bc,after,guard⟩:=o;simp only at fq jX U;have e1:∀x,x∈op.operands.toList->cq σ ((ek x).g T) (a.eval x):=fun x ao=>wJ bk eP x (fq x ao)
 cases op<;>simp only[kP]at U<;>first|(cases U;done)|skip
 case move x=>cases U;exact⟨_,a.eval x,w,σ,rfl,.inl rfl,e1 x (by simp[Op.operands]),by grind[Cc,lV.refl]⟩
 case assign x=>cases U;exact⟨_,a.eval x,w,σ,rfl,.inl rfl,e1 x (by simp[Op.operands]),by grind[Cc,lV.refl]⟩
 case pick c x y=>
  have aB:=e1 c (by simp[Op.operands]);generalize (ek c).g T=aZ at U aB;cases aZ<;>simp only at U<;>first|(cases U;done)|skip
  rename_i t;have e:=aB.JL;cases t with
  | true=>cases U;refine⟨_,a.eval x,w,σ,?_,.inl rfl,e1 x (by simp[Op.operands]),by grind[Cc,lV.refl]⟩;show(asBool (a.eval c) >>= fun t=>pure (Next.value (if t then a.eval x else a.eval y))).run P w=_;rw[e];rfl
  | false=>cases U;refine⟨_,a.eval y,w,σ,?_,.inl rfl,e1 y (by simp[Op.operands]),by grind[Cc,lV.refl]⟩;show(asBool (a.eval c) >>= fun t=>pure (Next.value (if t then a.eval x else a.eval y))).run P w=_;rw[e];rfl
 case alloc t=>
  cases dU:iL P t with
  | none=>simp_all
  | some z=>
   rw[dU]at U;obtain⟨mF,o8⟩:=uc dU w;refine ha.next (s:=Instr.alloc t true (.tuple #[])) ?_;have aO:=Wg (P:=P) al b6 fp (dr z) z t (wC o8).cells U;obtain⟨aQ,aW,τ,h1,h2,h3⟩:=aO;refine⟨aQ,aW,τ,?_,h2,h3⟩
   simp_all[Instr.alloc]
 case box t x=>refine ha.next (s:=Instr.box t (a.eval x)) ?_;exact Wg (P:=P) al b6 fp _ (a.eval x) t (e1 x (by simp[Op.operands])).cells U
 case build t ie=>
  obtain⟨rfl,ak⟩:=nH U;refine ha.next (s:=Instr.build t (ie.map fun(i,x)=>(i,a.eval x))) ?_;rw[WA];obtain⟨dx,bp⟩:=WC bk eP ie.toList fun p bJ=>fq p.2 (by grind[Op.operands])
  exact ha.pure al (akq ak dx bp w)
 case buildSlice t len ie=>
  refine ha.next (s:=Instr.buildSlice t len (ie.map fun(i,x)=>(i,a.eval x))) ?_;rw[WA]
  grind[WC,Op.operands,aku]
 case load t x=>obtain⟨rfl,aO⟩:=Wj (P:=P) al (jX (.inl rfl) x (by simp[Op.operands])) (e1 x (by simp[Op.operands])) U;exact(ha.pure al aO).next
 case store t x y=>
  cases dU:hk P t with
  | none=>simp_all
  | some n=>
   rw[dU]at U;obtain⟨rfl,aU,aW,h1,h2⟩:=akm (P:=P) dU al (jX (.inr rfl) x (by simp[Op.operands])) (e1 x (by simp[Op.operands])) (e1 y (by simp[Op.operands])) U;refine⟨.skip,undef,aW,σ,?_,.inr ⟨rfl,rfl⟩,cq.undef,h2⟩;show(do Instr.storeAt t (a.eval x) (a.eval y);pure Next.skip:Sem Next).run P w=_
   simp_all
 case nilCheck x=>obtain⟨rfl,ak⟩:=nH U;obtain⟨h1,h2⟩:=akP (P:=P) (w:=w) ak (e1 x (by simp[Op.operands])) ⟨dst,.nilCheck x,type,bc,after,guard⟩ x rfl a.eval rfl;exact⟨_,a.eval x,w,σ,h1,.inl rfl,h2,by grind[Cc,lV.refl]⟩
 case binOp op t x y yt=>obtain⟨rfl,ak⟩:=nH U;exact(ha.pure al (akj op t x y _ _ _ _ ak (e1 x (by simp[Op.operands])) (e1 y (by simp[Op.operands])) w)).next
 case unOp op t x=>obtain⟨rfl,ak⟩:=nH U;exact(ha.pure al (akk op _ _ ak (e1 x (by simp[Op.operands])) w)).next
 case convert s d x=>
  have ak5:∀e,P.underlying s=some (.slice e)->ja P (.convert s d x)=1\/ja P (.convert s d x)=4:=by grind[BV,ja]
  exact(ak1 al b6 fp (fun⟨e,he⟩=>jX (ak5 e he) x (by simp[Op.operands])) (e1 x (by simp[Op.operands])) U).next
 case makeInterface t x=>
  cases bf:P.underlying t with
  | none=>simp_all
  | some jn=>
   rw[bf]at U;have hv:v=.iface t ((ek x).g T)/\ab=H/\(match jn with|.interface _=>true|_=>false)=false:=by grind
   obtain⟨rfl,rfl,wD⟩:=hv;refine ha.next (s:=Instr.makeInterface t (a.eval x)) (ha.pure al ⟨.iface t (a.eval x),?_,.iface t _ _ (e1 x (by simp[Op.operands])) .nil⟩);cases jn<;>first|(cases wD;done)|(simp[Instr.makeInterface,run_underlying bf])
 case makeFunc fn first cap=>
  split at U
  ·rename_i f;cases U;refine ha.next (s:=Instr.makeFunc (.func f) (first.map a.eval) (cap.map a.eval)) (ha.pure al ⟨_,rfl,?_⟩);refine .func f _ _ _ _ ?_ ?_ .nil
   ·have:=Kc bk eP first.toList fun y ba=>fq y (by simp_all[Op.operands])
    simp_all
   ·have:=Kc bk eP cap.toList fun y ba=>fq y (by simp_all[Op.operands])
    simp_all
  grind
 case makeSlice t x y=>exact(aks al b6 fp (e1 x (by simp[Op.operands])) (e1 y (by simp[Op.operands])) U).next
 case slice t x fm an hy=>
  obtain⟨rfl,ak⟩:=nH U;exact(ha.pure al (akT al (fun⟨n,e,he⟩=>jX (.inl (by simp_all[ja])) x (by simp[Op.operands])) (e1 x (by simp[Op.operands])) (Pb bk eP fm fun y e=>fq y (by simp_all[Op.operands]))
   (Pb bk eP an fun y e=>fq y (by simp_all[Op.operands])) (Pb bk eP hy fun y e=>fq y (by simp_all[Op.operands])) ak)).next
 case fieldAddr s x f=>obtain⟨rfl,ak⟩:=nH U;exact(ha.pure al (akU (e1 x (by simp[Op.operands])) ak w)).next
 case field t x f=>obtain⟨rfl,ak⟩:=nH U;exact(ha.pure al (akX (e1 x (by simp[Op.operands])) ak w)).next
 case indexAddr t x i=>obtain⟨rfl,ak⟩:=nH U;exact(ha.pure al (akV (e1 x (by simp[Op.operands])) (e1 i (by simp[Op.operands])) ak w)).next
 case index t x i=>obtain⟨rfl,ak⟩:=nH U;exact(ha.pure al (akW (e1 x (by simp[Op.operands])) (e1 i (by simp[Op.operands])) ak w)).next
 case typeAssert x t vq ok=>obtain⟨rfl,ak⟩:=nH U;exact(ha.pure al (akY (e1 x (by simp[Op.operands])) ak w)).next
 case extract x i=>
  have ao:=e1 x (by simp[Op.operands]);generalize (ek x).g T=xv at U ao;cases xv<;>simp only at U<;>first|(cases U;done)|skip
  rename_i vs;obtain⟨rfl,ak⟩:=nH U;obtain⟨nG,e,vo⟩:=ao.akc;rw[wB]at ak;obtain⟨aQ,bP,q2⟩:=vo.get i v ak;refine ha.next (s:=Instr.extract (a.eval x) i) (ha.pure al ⟨aQ,?_,q2⟩)
  simp_all[Instr.extract]
 case call c=>
  split at U
  case h_2=>cases U
  case h_1 b ak=>
  have aD:=Kc bk eP c.args.toList fun y ba=>fq y (by simp_all[Op.operands,Call.operands])
  have aO:=ak3 (de:=type) (WD:=c.args.map fun|.const _=>true|_=>false) (aA:=c.args.map a.eval) al b6 fp (fun kl x ao=>by grind[EC,ja,Op.operands,Call.operands]) (by simp_all) U;have e:execOp a.eval ⟨dst,.call c,type,bc,after,guard⟩=builtin b c.argTypes type (c.args.map fun|.const _=>true|_=>false) (c.args.map a.eval):=by simp only[execOp,resolve,ak];rfl
  simp_all
end
end Go.Ab
namespace Go.Ab
open Go
structure iG (H ab:au):Prop where
 dO:H.next<=ab.next
 dc:ab.dS=H.dS
 cu:ab.ed=H.ed
 lE:∀i,i<H.dS->ab.get i=H.get i
 dd:∀i,H.get i=none->ab.get i≠none->H.next<=i/\i<ab.next
theorem iG.refl(H:au):iG H H:=⟨Nat.le_refl _,rfl,rfl,fun _ _=>rfl,fun _ h aT=>absurd h aT⟩
theorem iG.trans{H bB cJ:au}(a:iG H bB)(b:iG bB cJ):iG H cJ:=by refine⟨Nat.le_trans a.dO b.dO,b.dc.trans a.dc,b.cu.trans a.cu,fun i an=>(b.lE i (by rw[a.dc];exact an)).trans (a.lE i an),fun i h h2=>?_⟩;have h1:=a.dO;have h3:=b.dO;by_cases aJ:bB.get i=none;have:=b.dd i aJ h2;omega;have:=a.dd i h aJ;omega
theorem iG.wf{H ab:au}(a:iG H ab)(h:H.dS<=H.next):ab.dS<=ab.next:=by rw[a.dc];exact Nat.le_trans h a.dO
theorem WE{H:au}(aq:List Value)(hf:H.dS<=H.next):iG H ⟨H.t.set H.next (some ⟨aq,true⟩),Nat.succ H.next,H.dS,H.ed⟩:=by
 refine⟨le_succ _,rfl,rfl,fun i an=>Tr.l9 _ _ _ _ (by omega),fun i h aT=>?_⟩;by_cases an:i=H.next
 simp_all
 exact absurd ((Tr.l9 _ _ _ _ an).trans h) aT
theorem WG{H ab:au}{aq:List Value}{v:Value}(hf:H.dS<=H.next)(U:yJ aq H=some (v,ab)):iG H ab:=by grind[yJ,au.cY,WE]
theorem Cs{H ab:au}{aq:List Value}{n c:Nat}{v:Value}(hf:H.dS<=H.next)(U:mB aq n c H=some (v,ab)):iG H ab:=by grind[mB,au.cY,WE]
theorem Pj{H ab:au}{id off:Nat}{vs:List Value}(U:wi H id off vs=some ab):iG H ab:=by
 rw[JF]at U;cases hg:H.get id with
 | none=>simp_all
 | some b=>
  rw[hg]at U;simp only at U;split at U;rename_i aB;cases U;simp only[Bool.and_eq_true,au.o2,mE,decide_eq_true_eq]at aB;refine⟨Nat.le_refl _,rfl,rfl,fun i an=>Tr.l9 _ _ _ _ (by omega),fun i h aT=>?_⟩;by_cases an:i=id
  simp_all
  exact absurd ((Tr.l9 _ _ _ _ an).trans h) aT
  grind
theorem ak6{H:au}{id:Nat}(hf:H.dS<=id):iG H (H.set id none):=by refine⟨Nat.le_refl _,rfl,rfl,fun i an=>Tr.l9 _ _ _ _ (by omega),fun i h aT=>?_⟩;by_cases an:i=id;subst an;exact absurd (Tr.Ai _ _) aT;exact absurd ((Tr.l9 _ _ _ _ an).trans h) aT
theorem WH{x v:Value}{H ab:au}(U:u3 x H=some (v,ab)):ab=H:=by
 unfold u3 at U;split at U
 grind
 grind
section
variable{P:Program}{H ab:au}
theorem ak7{size bytes n:Nat}{s v:Value}{cY:List Value}(hf:H.dS<=H.next)(U:rA size bytes s cY n H=some (v,ab)):iG H ab:=by
 unfold rA at U;split at U
 case h_2=>cases U
 case h_1 a len c=>
 split at U
 case h_1=>grind[iG.refl,Cs]
 case h_2 id off cM=>
  split at U
  ·cases U
  ·split at U
   ·simp_all[iG.refl]
   ·split at U
    ·split at U
     ·grind[z1,Cs]
     ·split at U
      ·unfold BW at U;split at U
       ·split at U
        ·rename_i b ak aB;simp only[Bool.and_eq_true,au.o2,mE,decide_eq_true_eq]at aB;exact(ak6 aB.1.2).trans (Cs (H:=H.set id none) hf U)
        grind
       grind
      grind
    grind
theorem Pk{g:Value->Value->au->R}{l:List Value}{v:Value}(hg:∀x y,g x y H=some (v,ab)->iG H ab)(U:ig g l H=some (v,ab)):iG H ab:=by
 unfold ig at U
 grind
theorem Pl{g:Value->au->R}{l:List Value}{v:Value}(hg:∀x,g x H=some (v,ab)->iG H ab)(U:fh g l H=some (v,ab)):iG H ab:=by
 unfold fh at U
 grind
theorem ak8{b:Builtin}{cN:List TypeId}{l:List Value}{v:Value}(hf:H.dS<=H.next)(U:(u5 P b cN).f l H=some (v,ab)):iG H ab:=by
 unfold u5 at U;cases b<;>simp only at U<;>first|(cases U;done)|skip
 case append=>
  unfold Jr at U;split at U
  case h_2=>cases U
  case h_1=>
  split at U
  case h_1=>
   unfold Ef at U;split at U
   ·split at U
    ·split at U
     ·split at U
      ·refine Pk (fun x y U=>?_) U;unfold Jq at U;split at U
       ·grind[iG.refl,Cs]
       grind
      grind
     grind
    grind
   grind
  case h_2=>
  unfold Ee at U;simp only at U;split at U
  ·split at U
   ·split at U
    ·split at U
     ·grind[Pk,gw,ak7]
     grind
    grind
   grind
  grind
 case clear=>
  split at U
  ·refine Pl (fun x U=>?_) U;unfold GB at U;split at U
   ·split at U
    ·simp only[z7]at U
     grind[iG.refl,Pj]
    grind
   grind
  grind
 case copy=>
  unfold z6 at U;split at U
  ·split at U
   ·split at U
    ·split at U
     ·refine Pk (fun x y U=>?_) U;unfold rB at U;split at U
      ·split at U
       ·grind[iG.refl,Pj]
       grind
      grind
     grind
    grind
   grind
  grind
 case len=>
  split at U
  ·grind[Pl,GA,iG.refl]
  grind
 case cap=>
  split at U
  ·grind[Pl,Pe,iG.refl]
  grind
 case max=>obtain⟨rfl,_⟩:=nH U;exact iG.refl _
 case min=>obtain⟨rfl,_⟩:=nH U;exact iG.refl _
theorem Kd{op:Op}{T:List Value}{v:Value}(hf:H.dS<=H.next)(U:(kP P op).f T H=some (v,ab)):iG H ab:=by
 cases op<;>simp only[kP]at U<;>first|(cases U;done)|(obtain⟨rfl,_⟩:=nH U;exact iG.refl _)|(cases U;exact iG.refl _)|skip
 case pick c x y=>grind[iG.refl]
 case alloc t=>grind[WG]
 case box t x=>exact WG hf U
 case buildSlice t len ie=>
  unfold eV at U;split at U
  ·split at U
   ·split at U
    ·split at U
     ·grind[Jo,Cs]
     grind
    grind
   grind
  grind
 case load t x=>
  unfold oI at U;split at U
  ·simp only[bZ]at U
   grind[iG.refl]
  ·simp only[aw]at U;split at U
   ·split at U
    ·split at U
     ·obtain⟨rfl,_⟩:=nH U;exact iG.refl _
     grind
    grind
   grind
  grind
 case store t x y=>
  split at U
  ·simp only[bx]at U
   grind[Pj]
  grind
 case convert s d x=>
  unfold BV at U;split at U
  ·grind[iG.refl]
  ·split at U
   ·grind[iG.refl]
   ·split at U
    ·simp only[tW]at U;split at U
     ·grind[iG.refl]
     grind
    grind
   grind
  ·split at U
   ·split at U
    ·simp only[BU]at U
     grind[Cs]
    grind
   ·split at U
    ·grind[WH,iG.refl]
    grind
   grind
  grind
 case makeInterface t x=>grind[iG.refl]
 case makeFunc fn x y=>grind[iG.refl]
 case makeSlice t x y=>
  unfold rD at U;split at U
  ·split at U
   ·split at U
    ·simp only[u6]at U
     grind[Cs]
    grind
   grind
  grind
 case extract x i=>split at U<;>first|(cases U;done)|(obtain⟨rfl,_⟩:=nH U;exact iG.refl _)
 grind[ak8]
end
end Go.Ab
namespace Go.Ab
open Go
def qf(l:List Nat)(H ab:au):Prop:=∀id,ab.get id≠H.get id->id∈l\/(H.next<=id/\id<ab.next)
theorem qf.refl(l:List Nat)(H:au):qf l H H:=fun _ h=>absurd rfl h
theorem WI{H:au}(l:List Nat)(aq:List Value):qf l H ⟨H.t.set H.next (some ⟨aq,true⟩),Nat.succ H.next,H.dS,H.ed⟩:=fun id h=>by
 by_cases an:id=H.next
 simp_all
 exact absurd (Tr.l9 _ _ _ _ an) h
section
variable{P:Program}{H ab:au}
theorem WJ{l:List Nat}{aq:List Value}{v:Value}(U:yJ aq H=some (v,ab)):qf l H ab:=by grind[yJ,au.cY,WI]
theorem ED{l:List Nat}{aq:List Value}{n c:Nat}{v:Value}(U:mB aq n c H=some (v,ab)):qf l H ab:=by grind[mB,au.cY,WI]
theorem Pm{l:List Nat}{id off:Nat}{vs:List Value}(fp:id∈l)(U:wi H id off vs=some ab):qf l H ab:=by
 rw[JF]at U;split at U;split at U;cases U;intro i an;by_cases he:i=id
 simp_all
 exact absurd (Tr.l9 _ _ _ _ he) an
 grind
 grind
theorem ak9{l:List Nat}{size bytes n:Nat}{s v:Value}{cY:List Value}(fp:∀i,En s=some i->i∈l)(U:rA size bytes s cY n H=some (v,ab)):qf l H ab:=by
 unfold rA at U;split at U
 case h_2=>cases U
 case h_1 a len c=>
 split at U
 case h_1=>grind[qf.refl,ED]
 case h_2 id off cM=>
  split at U
  ·cases U
  ·split at U
   ·simp_all[qf.refl]
   ·split at U
    ·split at U
     ·grind[z1,ED]
     ·split at U
      ·unfold BW at U;split at U
       ·split at U
        ·simp only[mB,au.cY,au.set]at U;cases U;intro i an;by_cases he:i=H.next
         ·simp_all
         ·by_cases yY:i=id
          ·subst yY;exact .inl (fp _ rfl)
          ·exact absurd ((Tr.l9 _ _ _ _ he).trans (Tr.l9 _ _ _ _ yY)) an
        grind
       grind
      grind
    grind
theorem G2{x:Value}{l:List Value}(ao:x∈l):∀i,En x=some i->i∈cm l:=fun _ an=>mem_filterMap.2 ⟨x,ao,an⟩
theorem Pn{g:Value->Value->au->R}{l:List Value}{v:Value}(hg:∀x y,l=[x,y]->g x y H=some (v,ab)->qf (cm l) H ab)(U:ig g l H=some (v,ab)):qf (cm l) H ab:=by
 unfold ig at U
 grind
theorem ala{b:Builtin}{cN:List TypeId}{l:List Value}{v:Value}(U:(u5 P b cN).f l H=some (v,ab)):
  ((b=.append\/b=.copy\/b=.clear)/\qf (cm l) H ab)\/ab=H:=by
 unfold u5 at U;cases b<;>simp only at U<;>first|(cases U;done)|skip
 case append=>
  left;refine⟨.inl rfl,?_⟩;unfold Jr at U;split at U
  case h_2=>cases U
  case h_1=>
  split at U
  case h_1=>
   unfold Ef at U;split at U
   ·split at U
    ·split at U
     ·split at U
      ·refine Pn (fun x y aD U=>?_) U;unfold Jq at U;split at U
       ·grind[qf.refl,ED]
       grind
      grind
     grind
    grind
   grind
  case h_2=>
  unfold Ee at U;simp only at U;split at U
  ·split at U
   ·split at U
    ·split at U
     ·refine Pn (fun x y aD U=>?_) U;unfold gw at U;split at U
      ·split at U
       ·exact ak9 (G2 (by grind)) U
       grind
      grind
     grind
    grind
   grind
  grind
 case clear=>
  left;refine⟨.inr (.inr rfl),?_⟩;split at U
  ·unfold fh at U;simp only at U;split at U
   ·rename_i x;unfold GB at U;split at U
    ·split at U
     ·simp only[z7]at U;split at U
      ·split at U
       ·simp_all[qf.refl]
       ·split at U
        ·simp_all[qf.refl]
        ·split at U
         ·cases U
         ·split at U
          ·rename_i aM;cases U;exact Pm (G2 (mem_cons_self ..) _ rfl) aM
          grind
      grind
     grind
    grind
   grind
  grind
 case copy=>
  left;refine⟨.inr (.inl rfl),?_⟩;unfold z6 at U;split at U
  ·split at U
   ·split at U
    ·split at U
     ·refine Pn (fun x y aD U=>?_) U;unfold rB at U;split at U
      ·split at U
       ·simp only at U;split at U
        ·simp_all[qf.refl]
        ·split at U
         ·split at U
          ·cases U
          ·split at U
           ·split at U
            ·rename_i aM;cases U;exact Pm (G2 (by rw[aD];exact mem_cons_self ..) _ rfl) aM
            grind
           grind
         grind
       grind
      grind
     grind
    grind
   grind
  grind
 case len=>
  right;split at U
  ·unfold fh at U
   grind[GA]
  grind
 case cap=>
  right;split at U
  ·unfold fh at U
   grind[Pe]
  grind
 case max=>right;exact(nH U).1
 case min=>right;exact(nH U).1
theorem alb{op:Op}{T:List Value}{v:Value}(U:(kP P op).f T H=some (v,ab)):
  ((ja P op=4/\qf (cm (kO op.operands.toList T)) H ab)\/(ja P op=2/\qf [] H ab))\/ab=H:=by
 cases op<;>simp only[kP]at U<;>first|(cases U;done)|(exact .inr (nH U).1)|(cases U;exact .inr rfl)|skip
 case pick c x y=>grind
 case alloc t=>left;right;refine⟨rfl,?_⟩;grind[WJ]
 case box t x=>exact .inl (.inr ⟨rfl,WJ U⟩)
 case buildSlice t len ie=>
  left;right;refine⟨rfl,?_⟩;unfold eV at U;split at U
  ·split at U
   ·split at U
    ·split at U
     ·grind[Jo,ED]
     grind
    grind
   grind
  grind
 case load t x=>
  right;unfold oI at U;split at U
  ·simp only[bZ]at U
   grind
  ·simp only[aw]at U;split at U
   ·split at U
    ·split at U
     ·exact(nH U).1
     grind
    grind
   grind
  grind
 case store t x y=>
  left;left;refine⟨rfl,?_⟩;split at U
  ·simp only[bx]at U;split at U
   ·rename_i hv;split at U
    ·split at U
     ·split at U
      ·split at U
       ·rename_i aM;cases U;refine Pm (G2 (x:=(ek x).g T) ?_ _ (by rw[hv];rfl)) aM
        simp_all[EC,Op.operands]
       grind
      grind
     grind
    grind
   grind
  grind
 case convert s d x=>
  unfold BV at U;split at U
  ·grind
  ·right;split at U
   ·grind
   ·split at U
    ·simp only[tW]at U;split at U
     ·grind
     grind
    grind
   grind
  ·rename_i aO;split at U
   ·rename_i qe;left;right;refine⟨by simp_all[ja],?_⟩;split at U
    ·simp only[BU]at U
     grind[ED]
    grind
   ·right;split at U
    ·exact WH U
    grind
   grind
  grind
 case makeInterface t x=>grind
 case makeFunc fn x y=>grind
 case makeSlice t x y=>
  left;right;refine⟨rfl,?_⟩;unfold rD at U;split at U
  ·split at U
   ·split at U
    ·simp only[u6]at U
     grind[ED]
    grind
   grind
  grind
 case extract x i=>right;split at U<;>first|(cases U;done)|(exact(nH U).1)
 grind[ala,ja,Op.operands,Call.operands]
theorem WK{op:Op}{T dA:List Value}(h:∀x∈op.operands.toList,(ek x).g T=(ek x).g dA):(kP P op).f T H=(kP P op).f dA H:=by
 have wK:∀l:List Operand,(∀x∈l,(ek x).g T=(ek x).g dA)->kO l T=kO l dA:=fun l aD=>by simp_all[EC]
 have aE2:∀l:List (Nat×Operand),(∀p∈l,(ek p.2).g T=(ek p.2).g dA)->u7 l T=u7 l dA:=by
  intro l;induction l with
  | nil=>intro _;rfl
  | cons p r bg=>grind[u7]
 have aE3:∀o:Option Operand,(∀x,o=some x->(ek x).g T=(ek x).g dA)->B0 o T=B0 o dA:=by
  intro o bM;cases o with
  | none=>rfl
  | some x=>show some _=some _;grind
 cases op<;>simp only[kP]
 case move x=>simp_all[Op.operands]
 case assign x=>simp_all[Op.operands]
 case pick c x y=>simp_all[Op.operands]
 case alloc t=>grind
 case box t x=>simp_all[Op.operands]
 case build t ie=>grind[Op.operands]
 case buildSlice t len ie=>grind[Op.operands]
 case load t x=>simp_all[Op.operands]
 case store t x y=>grind[Op.operands]
 case nilCheck x=>simp_all[Op.operands]
 case binOp o t x y z=>simp_all[Op.operands]
 case unOp o t x=>simp_all[Op.operands]
 case convert s d x=>simp_all[Op.operands]
 case makeInterface t x=>grind[Op.operands]
 case makeFunc fn x y=>grind[Op.operands]
 case makeSlice t x y=>simp_all[Op.operands]
 case slice t x fm an hy=>simp_all[Op.operands]
 case fieldAddr s x f=>simp_all[Op.operands]
 case field t x f=>simp_all[Op.operands]
 case indexAddr t x y=>simp_all[Op.operands]
 case index t x y=>simp_all[Op.operands]
 case typeAssert x t a ok=>simp_all[Op.operands]
 case extract x i=>simp_all[Op.operands]
 grind[Op.operands,Call.operands]
end
end Go.Ab
namespace Go.Ab
open Go
theorem G3{α:Type}{p:α->α->Bool}(bJ:∀x y,p x y=true->x=y):∀l m:List α,u0 p l m=true->l=m
 | [],[],_=>rfl
 | [],_::_,h=>by cases h
 | _::_,[],h=>by cases h
 | x::l,y::m,h=>by
  have h:cond (p x y) (u0 p l m) false=true:=h;cases aB:p x y with
  | true=>rw[aB]at h;rw[bJ x y aB,G3 bJ l m h]
  | false=>rw[aB]at h;cases h
theorem alc{k e6:IntKind}(h:u1 k e6=true):k=e6:=by cases k<;>cases e6<;>first|rfl|cases h
theorem ald{a b:Int}(h:pD a b=true):a=b:=by cases a<;>cases b;exact congrArg Int.ofNat (eq_of_beq_eq_true h);cases h;cases h;exact congrArg Int.negSucc (eq_of_beq_eq_true (show Nat.beq _ _=true from h)).symm
theorem WL{a b:Option Addr}(h:Em a b=true):a=b:=by
 unfold Em at h;cases a with
 | none=>grind
 | some a=>
  obtain⟨i,o,s⟩:=a;cases b with
  | none=>cases h
  | some b=>
   obtain⟨vd,dK,cl⟩:=b;cases s<;>cases cl<;>first|(cases h;done)|skip
   simp_all
theorem ale{a b:Fn}(h:VW a b=true):a=b:=by
 cases a<;>first|(cases h;done)|skip
 cases b<;>first|(cases h;done)|skip
 exact congrArg Fn.func (eq_of_beq_eq_true h)
theorem WM{a b:Bool}(h:Oz a b=true):a=b:=by cases a<;>cases b<;>first|rfl|cases h
theorem alf{a b:UInt8}(h:OA a b=true):a=b:=UInt8.toNat_inj.1 (eq_of_beq_eq_true h)
theorem Po{sub:Value->Value->Bool}(al:∀x y,sub x y=true->x=y)(x y:Value)(h:B8 sub x y=true):x=y:=by
 unfold B8 at h;cases x<;>cases y<;>simp only[Bool.false_eq_true,Bool.and_eq_true]at h<;>first|rfl|skip
 case bool.bool a b=>rw[WM h]
 case int.int k a e6 b=>grind[alc,ald]
 case string.string a b=>grind[G3,alf,ByteArray.ext,Array.ext']
 case pointer.pointer a b=>rw[WL h]
 case slice.slice a n c cH mC bV=>grind[WL,eq_of_beq_eq_true]
 case map.map a b=>grind[eq_of_beq_eq_true]
 case func.func f a b yM cH di=>grind[ale,Array.ext',G3]
 case iface.iface t v nh aQ=>grind[eq_of_beq_eq_true]
 grind[Array.ext',G3]
theorem alg(x y:Value)(h:OB x y=true):x=y:=
 Po (Po (Po fun _ _ h=>by cases h)) x y h
theorem alh{H ab:au}{id:Nat}(h:en H ab id=true):∃b,H.get id=some b/\ab.get id=some b:=by
 unfold en at h;cases a7:H.get id with
 | none=>simp_all
 | some b=>
  rw[a7]at h;cases bt:ab.get id with
  | none=>simp_all
  | some di=>
   rw[bt]at h;simp only[Bool.and_eq_true]at h;obtain⟨dg,dT⟩:=b;obtain⟨cr,fb⟩:=di
   grind[WM,G3,alg]
end Go.Ab
namespace Go.Ab
open Go
inductive Obj where
 | cells (b:ax)
 | loop (l:hP)
 | n8
def Obj.wr:Obj->Bool
 | .cells b=>b.wr
 | _=>true
noncomputable def au.cX(H:au)(i:Nat):Option Obj:=match H.get i with
 | some b=>some (.cells b)
 | none=>(eZ H.ed i).map .loop
def cellsOf(h:Nat->Option Obj)(i:Nat):Option ax:=match h i with
 | some (.cells b)=>some b
 | _=>none
theorem xS{h:Nat->Option Obj}{i:Nat}{b:ax}:cellsOf h i=some b↔h i=some (.cells b):=by grind[cellsOf]
def Pp:wh->LoopState->Option Code->Prop
 | .ready,s,p=>s=.ready/\p=none
 | .busy,s,_=>s=.busy
 | .over .ret,s,p=>s=.done/\p=some .ret
 | .over (.exit id),s,p=>s=.done/\p=some (.exit id)
 | .over .normal,_,_=>False
structure Ke (σ:c8) (l:hP) (L:Loop):Prop where
 T:bL σ l.T L.tmps.toList
 bw:L.params.toList=l.bw
 c9:L.assign=l.c9
 body:L.body=l.body
 st:Pp l.st L.state L.pending
def Ct(aP:Array MapEntry):List Value:=aP.toList.flatMap fun e=>[e.key,e.val]
def vr(σ:c8)(l:hP)(dj:Go.Obj):Prop:=match nA l with
 | true=>∃aP n,dj=.map aP n/\bL σ l.T (Ct aP)
 | false=>∃L,dj=.loop L/\Ke σ l L
theorem vr.mono{σ τ:c8}{l:hP}{dj:Go.Obj}(hm:∀id x,σ id=some x->τ id=some x)(h:vr σ l dj):vr τ l dj:=by unfold vr at h⊢;split at h;obtain⟨aP,n,h1,h2⟩:=h;exact⟨aP,n,h1,h2.mono hm⟩;obtain⟨L,h1,h2⟩:=h;exact⟨L,h1,h2.T.mono hm,h2.bw,h2.c9,h2.body,h2.st⟩
theorem vr.ali{σ:c8}{l:hP}{dj:Go.Obj}(h:vr σ l dj):∀a b c,dj≠.cells a b c:=by grind[vr]
def sx(σ:c8)(w:World)(id:Nat):Obj->Prop
 | .cells b=>VY σ w id b
 | .loop l=>∃c o s dj,σ id=some (c,o,s)/\w.heap[c]?=some dj/\vr σ l dj
 | .n8=>∃c o s,σ id=some (c,o,s)/\w.heap[c]?=some (.deferred (some []))
theorem sx.xT{σ:c8}{w:World}{id:Nat}{b:Obj}(h:sx σ w id b):∃c o s,σ id=some (c,o,s):=by
 cases b with
 | cells b=>obtain⟨c,o,s,_,_,_,h,_⟩:=h;simp_all
 | loop l=>obtain⟨c,o,s,_,h,_⟩:=h;simp_all
 | n8=>obtain⟨c,o,s,h,_⟩:=h;simp_all
def Obj.wL:Obj->Bool
 | .cells _=>true
 | _=>false
def alj:Option Go.Obj->Bool
 | some (.cells _ _ _)=>true
 | _=>false
theorem sx.e0{σ:c8}{w:World}{id c o s:Nat}{b:Obj}(h:sx σ w id b)(aB:σ id=some (c,o,s)):alj w.heap[c]?=b.wL/\c<w.heap.size:=by
 cases b with
 | cells b=>obtain⟨bV,dK,cl,_,_,_,h1,h2,_⟩:=h;rw[aB]at h1;cases h1;rw[h2];exact⟨rfl,(Array.getElem?_eq_some_iff.1 h2).1⟩
 | loop l=>
  obtain⟨bV,dK,cl,dj,h1,h2,h3⟩:=h;rw[aB]at h1;cases h1;rw[h2];refine⟨?_,(Array.getElem?_eq_some_iff.1 h2).1⟩;cases dj with
  | cells a b c=>exact absurd rfl (h3.ali a b c)
  | _=>rfl
 | n8=>obtain⟨bV,dK,cl,h1,h2⟩:=h;rw[aB]at h1;cases h1;rw[h2];exact⟨rfl,(Array.getElem?_eq_some_iff.1 h2).1⟩
structure lW (σ:c8) (B:Nat) (h:Nat->Option Obj) (w:World):Prop where
 ga:∀id b,h id=some b->sx σ w id b
 own:∀id b,h id=some b->b.wr=true->∃c o s,σ id=some (c,o,s)/\B<=c
 lU:∀i j iU gI,i≠j->h i=some iU->h j=some gI->iU.wr=true->∀c o s bV dK cl,σ i=some (c,o,s)->σ j=some (bV,dK,cl)->c≠bV
theorem lW.cells{σ:c8}{B:Nat}{h:Nat->Option Obj}{w:World}(al:lW σ B h w):ky σ B (cellsOf h) w:=
 ⟨fun id b ak=>al.ga id _ (xS.1 ak),fun id b ak=>al.own id _ (xS.1 ak),fun i j iU gI dC an bm=>al.lU i j _ _ dC (xS.1 an) (xS.1 bm)⟩
def Cu(σ:c8)(h:Nat->Option Obj)(c:Nat):Prop:=∃id b o s,h id=some b/\b.wr=true/\σ id=some (c,o,s)
structure jK (B:Nat) (σ:c8) (h:Nat->Option Obj) (n:Nat) (w:World) (τ:c8) (aT:Nat->Option Obj) (mC:Nat) (aW:World):Prop where
 gb:lW τ B aT aW
 dO:n<=mC
 ext:∀id,id<n\/mC<=id->τ id=σ id
 mono:∀id x,σ id=some x->τ id=some x
 os:aW.os=w.os
 tape:aW.tape=w.tape
 output:aW.output=w.output
 size:w.heap.size<=aW.heap.size
 lE:∀c,c<w.heap.size->¬Cu σ h c->aW.heap[c]?=w.heap[c]?
 ub:∀c,Cu τ aT c->c<w.heap.size->Cu σ h c
open Classical in
noncomputable def fx(h:Nat->Option Obj)(H ab:au):Nat->Option Obj:=fun id=>if ab.cX id=H.cX id then h id else ab.cX id
theorem jK.EE{B:Nat}{σ τ:c8}{h:Nat->Option Obj}{H ab:au}{w aW:World}(al:lW σ B h w)(g:lV B σ (cellsOf h) H.next w τ (iE (cellsOf h) H ab) ab.next aW)(alk:ab.ed=H.ed)
  (alm:∀i,eZ H.ed i≠none->ab.get i=H.get i):jK B σ h H.next w τ (fx h H ab) ab.next aW:=by
 have oJ:∀i,ab.cX i=H.cX i↔ab.get i=H.get i:=by grind[au.cX]
 have aE4:∀(id c o s:Nat) (b:Obj),h id=some b->(∀x,b≠.cells x)->σ id=some (c,o,s)->aW.heap[c]?=w.heap[c]?:=by
  intro id c o s b ak G4 aB;obtain⟨dZ,gd⟩:=(al.ga id b ak).e0 aB;refine g.lE c gd ?_;rintro⟨j,gI,jb,Kf,bm,_,G5⟩;have:=((al.ga j _ (xS.1 bm)).e0 G5).1;rw[this]at dZ;cases b with
  | cells x=>simp_all
  | loop l=>cases dZ
  | n8=>cases dZ
 have EF:∀id b,fx h H ab id=some b->(∃x,b=.cells x/\iE (cellsOf h) H ab id=some x)\/((∀x,b≠.cells x)/\h id=some b):=by
  intro id b ak;unfold fx at ak;split at ak;rename_i he;have he:=(oJ id).1 he;cases b with
  | cells x=>simp_all[iE,xS]
  | loop l=>simp_all
  | n8=>simp_all
  rename_i he;have he:¬ab.get id=H.get id:=fun e=>he ((oJ id).2 e)
  have aD:eZ H.ed id=none:=Classical.byContradiction fun aU=>he (alm id aU)
  unfold au.cX at ak;rw[alk,aD]at ak;cases hg:ab.get id with
  | none=>simp_all
  | some x=>simp_all[iE]
 have At:∀id b,fx h H ab id=some b->sx τ aW id b:=by
  intro id b ak;rcases EF id b ak with⟨x,rfl,ao⟩|⟨aU,ak⟩
  exact g.gb.ga id x ao;have bM:=al.ga id b ak;cases b with
  | cells x=>simp_all
  | loop l=>obtain⟨c,o,s,dj,h1,h2,h3⟩:=bM;exact⟨c,o,s,dj,g.mono _ _ h1,by grind,h3.mono g.mono⟩
  | n8=>obtain⟨c,o,s,h1,h2⟩:=bM;exact⟨c,o,s,g.mono _ _ h1,by grind⟩
 refine⟨⟨At,?_,?_⟩,g.dO,g.ext,g.mono,g.os,g.tape,g.output,g.size,?_,?_⟩;intro id b ak aM;rcases EF id b ak with⟨x,rfl,ao⟩|⟨aU,ak⟩
 exact g.gb.own id x ao aM;obtain⟨c,o,s,h1,h2⟩:=al.own id b ak aM;exact⟨c,o,s,g.mono _ _ h1,h2⟩;intro i j iU gI dC an bm aM c o s bV dK cl aB gX;have bH:=At i iU an;have jb:=At j gI bm;have Kg:=(bH.e0 aB).1;have Kh:=(jb.e0 gX).1;rcases EF i iU an with⟨x,rfl,ao⟩|⟨aU,ak⟩
 rcases EF j gI bm with⟨y,rfl,ba⟩|⟨Eu,kj⟩
 exact g.gb.lU i j x y dC ao ba aM c o s bV dK cl aB gX;intro e;subst e;rw[Kg]at Kh;cases gI with
 | cells y=>simp_all
 | loop l=>cases Kh
 | n8=>cases Kh
 rcases EF j gI bm with⟨y,rfl,ba⟩|⟨Eu,kj⟩
 intro e;subst e;rw[Kh]at Kg;cases iU with
 | cells y=>simp_all
 | loop l=>cases Kg
 | n8=>cases Kg
 obtain⟨dg,b3,dt,a7⟩:=(al.ga i iU ak).xT;obtain⟨cr,dL,cP,bt⟩:=(al.ga j gI kj).xT;have gY:=g.mono _ _ a7;have gZ:=g.mono _ _ bt;rw[aB]at gY;rw[gX]at gZ;cases gY;cases gZ;exact al.lU i j iU gI dC ak kj aM _ _ _ _ _ _ a7 bt;intro c aB eU;exact g.lE c aB fun⟨id,b,o,s,h1,h2,h3⟩=>eU ⟨id,_,o,s,xS.1 h1,h2,h3⟩
 rintro c ⟨id,b,o,s,h1,h2,h3⟩ aB;rcases EF id b h1 with⟨x,rfl,ao⟩|⟨aU,ak⟩
 obtain⟨j,y,jb,Kf,dZ,gd,mg⟩:=g.ub c ⟨id,x,o,s,ao,h2,h3⟩ aB;exact⟨j,_,jb,Kf,xS.1 dZ,gd,mg⟩;obtain⟨dg,b3,dt,a7⟩:=(al.ga id b ak).xT;have gY:=g.mono _ _ a7;rw[h3]at gY;cases gY;exact⟨id,b,o,s,ak,h2,a7⟩
structure pc (H:au):Prop where
 lt:∀i,H.cX i≠none->i<H.next
 td:∀i,eZ H.ed i≠none->H.get i=none
structure gJ (H ab:au):Prop where
 dO:H.next<=ab.next
 dc:ab.dS=H.dS
 lE:∀i,i<H.dS->ab.cX i=H.cX i
 dd:∀i,H.cX i=none->ab.cX i≠none->H.next<=i/\i<ab.next
 Ki:pc H->pc ab
theorem te{H:au}{i:Nat}:H.cX i=none↔H.get i=none/\eZ H.ed i=none:=by
 unfold au.cX;cases H.get i with
 | some b=>simp
 | none=>simp_all
theorem gJ.refl(H:au):gJ H H:=⟨Nat.le_refl _,rfl,fun _ _=>rfl,fun _ h aT=>absurd h aT,fun h=>h⟩
theorem gJ.trans{H bB cJ:au}(a:gJ H bB)(b:gJ bB cJ):gJ H cJ:=by refine⟨Nat.le_trans a.dO b.dO,b.dc.trans a.dc,fun i an=>(b.lE i (by rw[a.dc];exact an)).trans (a.lE i an),fun i h h2=>?_,fun w=>b.Ki (a.Ki w)⟩;have h1:=a.dO;have h3:=b.dO;by_cases aJ:bB.cX i=none;have:=b.dd i aJ h2;omega;have:=a.dd i h aJ;omega
theorem gJ.wf{H ab:au}(a:gJ H ab)(h:H.dS<=H.next):ab.dS<=ab.next:=by rw[a.dc];exact Nat.le_trans h a.dO
theorem iG.td{H ab:au}(m:iG H ab)(w:pc H):∀i,eZ H.ed i≠none->ab.get i=H.get i:=by intro i an;have aJ:=w.td i an;rw[aJ];apply Classical.byContradiction;intro aU;have h1:=(m.dd i aJ aU).1;have h2:=w.lt i (fun e=>an (te.1 e).2);omega
theorem iG.WN{H ab:au}(m:iG H ab):gJ H ab:=by
 refine⟨m.dO,m.dc,fun i an=>?_,fun i h aT=>?_,fun w=>⟨fun i an=>?_,fun i an=>?_⟩⟩;unfold au.cX;rw[m.lE i an,m.cu];rw[te]at h;have h2:ab.get i≠none:=fun e=>aT (te.2 ⟨e,by rw[m.cu];exact h.2⟩)
 exact m.dd i h.1 h2;by_cases aJ:H.cX i=none;have WO:=te.1 aJ;have h2:ab.get i≠none:=fun e=>an (te.2 ⟨e,by rw[m.cu];grind⟩)
 exact(m.dd i WO.1 h2).2;exact Nat.lt_of_lt_of_le (w.lt i aJ) m.dO;rw[m.cu]at an;rw[m.td w i an];exact w.td i an
theorem jK.refl{B:Nat}{σ:c8}{h:Nat->Option Obj}{n:Nat}{w:World}(al:lW σ B h w):jK B σ h n w σ h n w:=
 ⟨al,Nat.le_refl _,fun _ _=>rfl,fun _ _ h=>h,rfl,rfl,rfl,Nat.le_refl _,fun _ _ _=>rfl,fun _ h _=>h⟩
theorem jK.trans{B:Nat}{σ τ jB:c8}{h h1 h2:Nat->Option Obj}{n fo fN:Nat}{w dT fb:World}(a:jK B σ h n w τ h1 fo dT)(b:jK B τ h1 fo dT jB h2 fN fb):
  jK B σ h n w jB h2 fN fb:=by
 refine⟨b.gb,Nat.le_trans a.dO b.dO,fun id fp=>?_,fun id x ao=>b.mono _ _ (a.mono _ _ ao),b.os.trans a.os,b.tape.trans a.tape,b.output.trans a.output,Nat.le_trans a.size b.size,
  fun c aB eU=>?_,fun c bM aB=>a.ub c (b.ub c bM (Nat.lt_of_lt_of_le aB a.size)) aB⟩
 have h1:=a.dO;have h2:=b.dO;rw[b.ext id (by omega),a.ext id (by omega)];rw[b.lE c (Nat.lt_of_lt_of_le aB a.size) (fun bM=>eU (a.ub c bM aB)),a.lE c aB eU]
theorem sx.drawn{σ:c8}{w:World}{id:Nat}{b:Obj}(k:Nat)(h:sx σ w id b):sx σ {w with drawn:=k} id b:=by cases b<;>exact h
theorem jK.aln{B:Nat}{σ:c8}{h:Nat->Option Obj}{n:Nat}{w:World}(al:lW σ B h w)(k:Nat):jK B σ h n w σ h n {w with drawn:=k}:=
 ⟨⟨fun id b ak=>(al.ga id b ak).drawn k,al.own,al.lU⟩,Nat.le_refl _,fun _ _=>rfl,fun _ _ h=>h,rfl,rfl,rfl,Nat.le_refl _,fun _ _ _=>rfl,fun _ h _=>h⟩
theorem lW.Kj{B:Nat}{σ:c8}{h aT:Nat->Option Obj}{w:World}(al:lW σ B h w)(aD:∀id b,aT id=some b->h id=some b):lW σ B aT w:=
 ⟨fun id b ak=>al.ga id b (aD _ _ ak),fun id b ak=>al.own id b (aD _ _ ak),fun i j iU gI dC an bm=>al.lU i j iU gI dC (aD _ _ an) (aD _ _ bm)⟩
theorem jK.Kj{B:Nat}{σ τ:c8}{h aT WQ:Nat->Option Obj}{n mC:Nat}{w aW:World}(g:jK B σ h n w τ WQ mC aW)(aD:∀id b,aT id=some b->WQ id=some b):jK B σ h n w τ aT mC aW:=
 ⟨g.gb.Kj aD,g.dO,g.ext,g.mono,g.os,g.tape,g.output,g.size,g.lE,fun c ⟨id,b,o,s,ak,aM,aB⟩=>g.ub c ⟨id,b,o,s,aD _ _ ak,aM,aB⟩⟩
def wM(H:au)(h:Nat->Option Obj):Prop:=∀id b,H.cX id=some b->h id=some b
theorem EG(h:Nat->Option Obj)(H:au):fx h H H=h:=by grind[fx]
theorem wM.iE{H ab:au}{h:Nat->Option Obj}(al:wM H h):wM ab (fx h H ab):=by intro id b ak;unfold fx;split;rename_i e;exact al id b (e▸ak);omega
end Go.Ab
namespace Go.Ab
open Go
abbrev ew(r:Option Nat):Fence:={fn:=fun _=>True,depth:=none,alive:=false,round:=r}
theorem alo(r:Option Nat)(k:Nat):(ew r).room k:=fun _ h=>by cases h
structure cz (P:Program):Prop where
 alp:∀(f:Nat) (fn:Func), P.funcs[f]? = some fn->fn.name≠ "runtime.NumGoroutine"
 mixed:P.follows .mixedOrders=true
section
variable{P:Program}{B:Nat}{σ:c8}{h:Nat->Option Obj}{H ab:au}{w:World}
class h7 where
 k4:Nat->Option _root_.Go.Obj
 fm:Nat
structure hK [h7] (P:Program) (B:Nat) (σ:c8) (h:Nat->Option Obj) (H:au) (w:World):Prop where
 gb:lW σ B h w
 sub:wM H h
 b6:B<=w.heap.size
 Pq:As P σ
 wf:pc H
 dc:H.dS<=H.next
 base:∀c,c<B->w.heap[c]?=h7.k4 c
 fm:h7.fm<=B
variable[h7]
theorem jK.base{n:Nat}{τ:c8}{aT:Nat->Option Obj}{mC:Nat}{aW:World}(g:jK B σ h n w τ aT mC aW)(al:lW σ B h w)(b6:B<=w.heap.size)(ak:∀c,c<B->w.heap[c]?=h7.k4 c):∀c,c<B->aW.heap[c]?=h7.k4 c:=fun c aB=>
 (g.lE c (Nat.lt_of_lt_of_le aB b6) (fun⟨id,b,o,s,h1,h2,h3⟩=>by
  obtain⟨bV,dK,cl,aG,a6⟩:=al.own id b h1 h2
  grind)).trans (ak c aB)
structure fW (B:Nat) (σ:c8) (h:Nat->Option Obj) (H:au) (w:World) (τ:c8) (aT:Nat->Option Obj) (ab:au) (aW:World):Prop where
 hD:jK B σ h H.next w τ aT ab.next aW
 sub:wM ab aT
 yZ:∀id b,fx h H ab id=some b->aT id=some b
 jc:gJ H ab
def gN(σ:c8)(n mC:Nat):Prop:=∀i,n<=i->i<mC->σ i=none
theorem hK.next{τ:c8}{aT:Nat->Option Obj}{aW:World}(k:hK P B σ h H w)(s:fW B σ h H w τ aT ab aW):hK P B τ aT ab aW:=by refine⟨s.hD.gb,s.sub,Nat.le_trans k.b6 s.hD.size,fun g hg=>?_,s.jc.Ki k.wf,s.jc.wf k.dc,s.hD.base k.gb k.b6 k.base,k.fm⟩;obtain⟨z,dU⟩:=k.Pq g hg;exact⟨z,s.hD.mono _ _ dU⟩
theorem fW.refl(k:hK P B σ h H w):fW B σ h H w σ h H w:=⟨jK.refl k.gb,k.sub,fun id b ak=>by rwa [EG]at ak,gJ.refl H⟩
theorem alq{h1 h2:Nat->Option Obj}{bB cJ:au}(al:lW σ B h w)(vt:wM H h)(cW:gN σ H.next bB.next)(fw:gJ H bB)
  (dg:∀id b,fx h H bB id=some b->h1 id=some b) (cr:∀id b,fx h1 bB cJ id=some b->h2 id=some b):∀id b,fx h H cJ id=some b->h2 id=some b:=by
 intro id b ak;refine cr id b ?_;by_cases bt:cJ.cX id=bB.cX id;have:fx h1 bB cJ id=h1 id:=by simp_all[fx]
 grind[fx]
 have:fx h1 bB cJ id=cJ.cX id:=by simp_all[fx]
 rw[this];unfold fx at ak;split at ak;rename_i e;rw[e];cases hg:H.cX id with
 | some eh=>have:=vt id eh hg;simp_all
 | none=>
  exfalso;have G6:bB.cX id≠none:=fun aJ=>bt (by simp_all)
  have:=fw.dd id hg G6;have eo:=cW id this.1 this.2;obtain⟨c,o,s,cg⟩:=(al.ga id b ak).xT
  simp_all
 omega
theorem fW.trans{τ jB:c8}{h1 h2:Nat->Option Obj}{bB cJ:au}{dT fb:World}(k:hK P B σ h H w)(cW:gN σ H.next bB.next)(a:fW B σ h H w τ h1 bB dT)(b:fW B τ h1 bB dT jB h2 cJ fb):
  fW B σ h H w jB h2 cJ fb:=
 ⟨a.hD.trans b.hD,b.sub,alq k.gb k.sub cW a.jc a.yZ b.yZ,a.jc.trans b.jc⟩
theorem gN.left{n fo fN:Nat}(f:gN σ n fN)(h1:fo<=fN):gN σ n fo:=fun i a b=>f i a (Nat.lt_of_lt_of_le b h1)
theorem gN.right{τ:c8}{h1:Nat->Option Obj}{n fo fN:Nat}{w dT:World}(f:gN σ n fN)(g:jK B σ h n w τ h1 fo dT):gN τ fo fN:=fun i a b=>by rw[g.ext i (.inr a)];exact f i (Nat.le_trans g.dO a) b
theorem fW.alr{τ:c8}{aW:World}(k:hK P B σ h H w)(g:jK B σ h H.next w τ (fx h H ab) ab.next aW)(m:gJ H ab):fW B σ h H w τ (fx h H ab) ab aW:=
 ⟨g,k.sub.iE,fun _ _ ak=>ak,m⟩
def Cv:nz->Exit
 | .normal=>.normal
 | .exit id=>.exit id
 | .ret=>.ret
structure Pr (τ:c8) (aT:Nat->Option Obj) (ab:au) (fm:Nat) (ms:List Deferred):Prop where
 EH:∀d∈ms,∃id c o s,d.target=.collected c/\τ id=some (c,o,s)/\aT id=some .n8/\ab.cX id=none/\fm<=id/\id<ab.next
 Cw:ms.Pairwise fun d e=>d.target≠e.target
def ug(B:Nat)(σ:c8)(h:Nat->Option Obj)(H:au)(w:World)(ds:List Deferred)(a1:el):Exit->Act->World->Prop:=
 fun e cH aW=>e=Cv a1.c6/\∃ms τ aT,cH.defers=ms++ds/\Pr τ aT a1.H H.next ms/\bL τ a1.T cH.tmps.toList/\fW B σ h H w τ aT a1.H aW
def Ps:B3->au
 | .loop _ _ _ H=>H
 | .call _ _ H=>H
 | .round _ _ H=>H
structure iP [h7] (P:Program) (bo:hQ):Prop where
 jc:∀t a1,bo t=some a1->(Ps t).dS<=(Ps t).next->gJ (Ps t) a1.H
 call:∀f args H c6 v ab,bo (.call f args H)=some ⟨c6,[v],ab⟩->∀(B:Nat) (σ:c8) (h:Nat->Option Obj) (w:World) (gp:Array Value),hK P B σ h H w->gN σ H.next ab.next->bL σ args gp.toList->
  (∃fn c,P.funcs[f]?=some fn/\fn.body=some c)/\CallsIn (ew none) 0 P f gp w (fun e aW=>∃aQ τ aT,e=.returned aQ/\cq τ v aQ/\fW B σ h H w τ aT ab aW)
 round:∀l args H c6 v ab,bo (.round l args H)=some ⟨c6,[v],ab⟩->∀(B:Nat) (σ:c8) (h:Nat->Option Obj) (w:World) (gp:Array Value) (c o s:Nat) (r:Option Nat),hK P B σ h H w->gN σ H.next ab.next->bL σ args gp.toList->σ l=some (c,o,s)->
  ∃fn tmps c9 body,(Instr.yield c gp).run P w=.ok (.round c fn tmps c9 body) w/\RoundIn (ew r) 0 P c fn tmps c9 body w (fun e aW=>∃aQ τ aT,e=.returned aQ/\cq τ v aQ/\fW B σ h H w τ aT ab aW)
 loop:∃n,∀dv c T H a1,bo (.loop dv c T H)=some a1->∀(B:Nat) (σ:c8) (h:Nat->Option Obj) (w:World) (a:Act) (r:Option Nat),(dv=true->r=none)->hK P B σ h H w->gN σ H.next a1.H.next->bL σ T a.tmps.toList->
  Code.roundsIn (ew r) 0 P c (ug B σ h H w a.defers a1) n a w
theorem WR{bD:Array Oper}{T:List Value}{a:Act}(bk:bL σ T a.tmps.toList)(o:Oper):Region.wanted o (yielded bD a.tmps)=(iT bD.toList o.guard).f T:=by
 unfold Region.wanted iT;cases o.guard with
 | none=>rfl
 | some Cx=>
  obtain⟨j,c7⟩:=Cx;simp only[yielded];have e:bD.toList[j]?=bD[j]?:=by simp
  rw[e];cases aO:(bD[j]?).bind (·.dst)with
  | none=>rfl
  | some d=>
   simp only[Option.bind_some,pI];cases hv:T[d]? with
   | none=>
    have:a.tmps[d]?=none:=by
     have h1:=List.getElem?_eq_none_iff.1 hv;have h2:=bk.length
     simp_all
    simp_all[undef]
   | some v=>
    obtain⟨aQ,h1,h2⟩:=bk.get d v hv;have:a.tmps[d]?=some aQ:=by simp_all
    rw[this];simp only[getD_eq_getElem?_getD,hv,Option.getD_some];cases h2<;>first|rfl|(cases c7<;>simp)
theorem xU{T:List Value}{a:Act}(bk:bL σ T a.tmps.toList)(d:Option Tmp){v aQ:Value}(hv:cq σ v aQ):bL σ (iO T d v) (a.put d aQ).tmps.toList/\(a.put d aQ).defers=a.defers:=by
 cases d with
 | none=>exact⟨bk,rfl⟩
 | some d=>refine⟨?_,rfl⟩;show bL σ (hs T d v) (a.tmps.setIfInBounds d aQ).toList;rw[pJ,Array.toList_setIfInBounds];exact bk.set d hv
theorem Kk(dW:cz P){f:FuncId}{fn:Func}{c:Code}(hf:P.funcs[f]?=some fn)(ak:fn.body=some c)(args:Array Value)(w:World):(callFunc f args).run P w=.ok (.enter f args) w:=by
 have aU:=dW.alp f fn hf
 simp_all[callFunc]
theorem als{t:TypeId}{name:String}{f:FuncId}{ai:Bool}(hm:Ou P t name=some (f,ai))(bJ:Ov P t=some ai)(v:Value)(w:World)(n:Nat):
  (method (n+1) t v name).run P w=.ok (f,v) w:=by
 unfold Ou at hm;cases an:P.info? t with
 | none=>simp_all
 | some i=>
  rw[an]at hm;simp only at hm;cases hf:i.methods.toList.find? (fun m=>m.name==name)with
  | none=>simp_all
  | some m=>
   rw[hf]at hm;simp only at hm;cases hpath:m.path.toList with
   | cons _ _=>simp_all
   | nil=>
    rw[hpath]at hm;simp only at hm;have vu:i.methods.find? (fun m=>m.name==name)=some m:=by simp_all
    unfold Ov at bJ;have bf:∃d,P.underlying t=some d/\(match d with|.pointer _=>true|_=>false)=ai:=by grind
    obtain⟨d,bf,aO⟩:=bf;unfold method;have alu:(typeInfo t).run P w=.ok i w:=by simp[typeInfo,an]
    simp only[Sem.run_bind,alu,Result.andThen_ok,vu,hpath,follow,Sem.run_pure,hm,receiverAt,run_underlying bf];cases ai with
    | true=>
     cases d<;>first|(cases aO;done)|skip
     rfl
    | false=>cases d<;>first|(cases aO;done)|(simp[Place.get])
end
end Go.Ab
namespace Go.Ab
open Go
theorem Kl:∀(l:List (Nat×hP)) (i:Nat) (v:hP),eZ l i≠none->eZ (l7 l i v) i=some v
 | [],_,_,h=>absurd rfl h
 | x::r,i,v,h=>by
  have a7:eZ (x::r) i=cond (Nat.beq x.1 i) (some x.2) (eZ r i):=rfl;have bt:l7 (x::r) i v=cond (Nat.beq x.1 i) ((i,v)::r) (x::l7 r i v):=rfl;rw[bt];cases ak:Nat.beq x.1 i with
  | true=>
   show cond (Nat.beq i i) (some v) _=some v
   simp_all
  | false=>
   rw[a7,ak]at h;show cond (Nat.beq x.1 i) (some x.2) (eZ (l7 r i v) i)=some v
   simp_all[Kl]
theorem y0:∀(l:List (Nat×hP)) (i j:Nat) (v:hP),j≠i->eZ (l7 l i v) j=eZ l j
 | [],_,_,_,_=>rfl
 | x::r,i,j,v,h=>by
  have a7:eZ (x::r) j=cond (Nat.beq x.1 j) (some x.2) (eZ r j):=rfl;have bt:l7 (x::r) i v=cond (Nat.beq x.1 i) ((i,v)::r) (x::l7 r i v):=rfl;rw[a7,bt];cases ak:Nat.beq x.1 i with
  | true=>
   have alv:x.1=i:=eq_of_beq_eq_true ak;have qM:Nat.beq i j=false:=by
    cases aB:Nat.beq i j with
    | false=>rfl
    | true=>exact absurd (eq_of_beq_eq_true aB).symm h
   show cond (Nat.beq i j) (some v) (eZ r j)=_;rw[alv,qM];rfl
  | false=>show cond (Nat.beq x.1 j) (some x.2) (eZ (l7 r i v) j)=_;rw[y0 r i j v h]
theorem qN(x:Nat×hP)(r:List (Nat×hP))(j:Nat):eZ (x::r) j=if x.1=j then some x.2 else eZ r j:=by
 show cond (Nat.beq x.1 j) (some x.2) (eZ r j)=_
 simp_all
theorem Km(H:au)(i:Nat):(s4 H).cX i=if i=H.next then some (.loop (ki []))else H.cX i:=by
 have g:(s4 H).get i=if i=H.next then none else H.get i:=by
  show(H.t.set H.next none).get i=_;by_cases h1:i=H.next
  simp_all[Tr.Ai]
  rw[if_neg h1,Tr.l9 _ _ _ _ h1];rfl
 have l:eZ (s4 H).ed i=if H.next=i then some (ki [])else eZ H.ed i:=qN _ _ _
 unfold au.cX
 grind
theorem alw{H:au}(hf:H.dS<=H.next):gJ H (s4 H):=by
 refine⟨by show _<=H.next+1;omega,rfl,fun i an=>?_,fun i h aT=>?_,fun wf=>⟨fun i an=>?_,fun i an=>?_⟩⟩;rw[Km,if_neg (by omega)];rw[Km]at aT;split at aT;rename_i e;subst e;exact⟨Nat.le_refl _,by show _<H.next+1;omega⟩
 simp_all
 show i<H.next+1;rw[Km]at an;split at an;omega;have:=wf.lt i an;omega;have aD:eZ (s4 H).ed i=if H.next=i then some (ki [])else eZ H.ed i:=qN _ _ _
 rw[aD]at an;show(H.t.set H.next none).get i=none;by_cases h1:H.next=i
 simp_all[Tr.Ai]
 rw[if_neg h1]at an;rw[Tr.l9 _ _ _ _ (Ne.symm h1)];exact wf.td i an
section
variable{P:Program}{B:Nat}{σ:c8}{h:Nat->Option Obj}{H ab:au}{w:World}
theorem alx(al:lW σ B h w)(b6:B<=w.heap.size)(qO:pc H)(cW:σ H.next=none)(de:True):
  ∃ τ,jK B σ h H.next w τ (fx h H (s4 H)) (s4 H).next (w.alloc (.map #[] 0))/\cq τ (.map (some H.next)) (.map (some w.heap.size)):=by
 let nk:c8:=fun id=>if id=H.next then some (w.heap.size,0,0)else σ id
 have mono:∀id x,σ id=some x->nk id=some x:=fun id x ao=>by grind
 have dt:nk H.next=some (w.heap.size,0,0):=if_pos rfl;have cP:∀id,id≠H.next->nk id=σ id:=fun id e=>if_neg e
 have aJ:H.cX H.next=none:=Classical.byContradiction fun e=>absurd (qO.lt _ e) (by omega)
 have bf:∀id,fx h H (s4 H) id=if id=H.next then some (.loop (ki []))else h id:=by simp_all[fx,Km]
 have dC:∀id b,h id=some b->id≠H.next:=fun id b ak e=>by
  obtain⟨c,o,s,aB⟩:=(al.ga id b ak).xT
  simp_all
 have dw:∀id b c o s,h id=some b->σ id=some (c,o,s)->c<w.heap.size:=fun id b c o s ak aB=>((al.ga id b ak).e0 aB).2
 have rK:∀c,c<w.heap.size->(w.alloc (.map #[] 0)).heap[c]?=w.heap[c]?:=fun c aB=>by
  show(w.heap.push _)[c]?=_
  grind
 have EI:(w.alloc (.map #[] 0)).heap[w.heap.size]?=some (.map #[] 0):=by show(w.heap.push _)[w.heap.size]?=_;simp
 have vv:∀id b,fx h H (s4 H) id=some b->(id=H.next/\b=.loop (ki []))\/(id≠H.next/\h id=some b):=by grind
 have gb:lW nk B (fx h H (s4 H)) (w.alloc (.map #[] 0)):=by
  refine⟨fun id b ak=>?_,fun id b ak aM=>?_,fun i j iU gI qM an bm aM=>?_⟩;rcases vv id b ak with⟨rfl,rfl⟩|⟨e,ak⟩
  exact⟨_,_,_,_,dt,EI,#[],0,rfl,.nil⟩;have bM:=al.ga id b ak;have aD:=dw id b;cases b with
  | cells x=>obtain⟨c,o,s,dD,de,eC,h1,h2,h3,aG,a6,bq⟩:=bM;exact⟨c,o,s,dD,de,eC,mono _ _ h1,by simp_all,h3,aG,a6.mono mono,bq⟩
  | loop x=>obtain⟨c,o,s,cL,h1,h2,h3⟩:=bM;exact⟨c,o,s,cL,mono _ _ h1,by simp_all,h3.mono mono⟩
  | n8=>obtain⟨c,o,s,h1,h2⟩:=bM;exact⟨c,o,s,mono _ _ h1,by simp_all⟩
  rcases vv id b ak with⟨rfl,rfl⟩|⟨e,ak⟩
  simp_all
  obtain⟨c,o,s,a7,bt⟩:=al.own id b ak aM
  simp_all
  intro c o s bV dK cl aB gX;rcases vv i iU an with⟨rfl,rfl⟩|⟨cU,an⟩<;>rcases vv j gI bm with⟨rfl,rfl⟩|⟨b1,bm⟩
  omega
  grind
  grind
  rw[cP i cU]at aB;rw[cP j b1]at gX;exact al.lU i j iU gI qM an bm aM _ _ _ _ _ _ aB gX
 refine⟨nk,⟨gb,le_succ _,fun id fp=>cP id (fun e=>?_),mono,rfl,rfl,rfl,by simp_all,fun c aB _=>rK c aB,fun c ⟨id,b,o,s,ak,aM,aB⟩ hlt'=>?_⟩,.yP _ _ _ _ dt .nil⟩;rcases fp with h1|h1
 omega;have:H.next+1<=id:=h1;omega;rcases vv id b ak with⟨rfl,rfl⟩|⟨cU,ak⟩
 simp_all
 rw[cP id cU]at aB;exact⟨id,b,o,s,ak,aM,aB⟩
theorem lW.map(al:lW σ B h w)(vt:wM H h)(qO:pc H){id:Nat}{r:hP}(aD:eZ H.ed id=some r)(hm:nA r=true):
  h id=some (.loop r)/\H.get id=none/\∃c o s aP n,σ id=some (c,o,s)/\B<=c/\w.heap[c]?=some (.map aP n)/\bL σ r.T (Ct aP):=by
 have hg:H.get id=none:=qO.td id (by grind);have hO:H.cX id=some (.loop r):=by simp_all[au.cX]
 have hh:=vt id _ hO;obtain⟨c,o,s,dj,h1,h2,h3⟩:=al.ga id _ hh;obtain⟨bV,dK,cl,aG,a6⟩:=al.own id _ hh rfl
 simp_all[vr]
theorem aly{id:Nat}{r v:hP}(hg:H.get id=none)(aD:eZ H.ed id=some r)(i:Nat):au.cX ⟨H.t,H.next,H.dS,l7 H.ed id v⟩ i=if i=id then some (.loop v)else H.cX i:=by
 show(match H.get i with|some b=>some (Obj.cells b)|none=>(eZ (l7 H.ed id v) i).map .loop)=_;by_cases an:i=id
 simp_all[Kl]
 rw[if_neg an,y0 _ _ _ _ an];rfl
theorem WS{id:Nat}{r v:hP}(nI:H.dS<=id)(aD:eZ H.ed id=some r):gJ H ⟨H.t,H.next,H.dS,l7 H.ed id v⟩:=by
 have y1:∀i,au.cX ⟨H.t,H.next,H.dS,l7 H.ed id v⟩ i=none↔H.cX i=none:=by
  intro i;rw[te,te];show H.get i=none/\eZ (l7 H.ed id v) i=none↔_
  grind[Kl,y0]
 refine⟨Nat.le_refl _,rfl,fun i an=>?_,fun i an fu=>absurd ((y1 i).2 an) fu,fun wf=>⟨fun i an=>wf.lt i (fun e=>an ((y1 i).2 e)),fun i an=>?_⟩⟩;show(match H.get i with|some b=>some (Obj.cells b)|none=>(eZ (l7 H.ed id v) i).map .loop)=_;rw[y0 _ _ _ _ (by omega)];rfl;show H.get i=none;refine wf.td i ?_
 grind[y0]
theorem alz(al:lW σ B h w)(vt:wM H h)(qO:pc H){id:Nat}{r v:hP}(aD:eZ H.ed id=some r)(hm:nA r=true)(hv:nA v=true){c o s:Nat}(eo:σ id=some (c,o,s)){aP:Array MapEntry}{n:Nat}(bk:bL σ v.T (Ct aP)):
  jK B σ h H.next w σ (fx h H ⟨H.t,H.next,H.dS,l7 H.ed id v⟩) H.next (w.putObj c (.map aP n)):=by
 obtain⟨hh,hg,bV,dK,cl,alA,hn,bP,q2,cS,eI⟩:=al.map vt qO aD hm;rw[eo]at bP;cases bP;have aB:c<w.heap.size:=(Array.getElem?_eq_some_iff.1 cS).1;have bf:∀i,fx h H ⟨H.t,H.next,H.dS,l7 H.ed id v⟩ i=if i=id then some (.loop v)else h i:=by
  intro i;unfold fx;rw[aly hg aD];by_cases e:i=id;rw[if_pos e,if_pos e,e];have eX:H.cX id=some (.loop r):=by simp_all[au.cX]
  simp_all
  simp_all
 have G7:∀i b bV dK cl,i≠id->h i=some b->σ i=some (bV,dK,cl)->bV≠c:=fun i b bV dK cl dC ak gX e=>by subst e;exact al.lU id i _ b (Ne.symm dC) hh ak rfl _ _ _ _ _ _ eo gX rfl
 have put:∀ {i b},sx σ w i b->(∀bV dK cl,σ i=some (bV,dK,cl)->bV≠c)->sx σ (w.putObj c (.map aP n)) i b:=by
  intro i b fp dC;have e:∀bV,bV≠c->(w.putObj c (.map aP n)).heap[bV]?=w.heap[bV]?:=fun bV h=>World.putObj_heap_other h
  cases b with
  | cells b=>obtain⟨bV,dK,cl,dD,de,eC,h1,h2,h3,aG,a6,bq⟩:=fp;exact⟨bV,dK,cl,dD,de,eC,h1,by simp_all,h3,aG,a6,bq⟩
  | loop r=>obtain⟨bV,dK,cl,cL,h1,h2,h3⟩:=fp;exact⟨bV,dK,cl,cL,h1,by simp_all,h3⟩
  | n8=>obtain⟨bV,dK,cl,h1,h2⟩:=fp;exact⟨bV,dK,cl,h1,by simp_all⟩
 have gb:lW σ B (fx h H ⟨H.t,H.next,H.dS,l7 H.ed id v⟩) (w.putObj c (.map aP n)):=by
  refine⟨fun i b ak=>?_,fun i b ak aM=>?_,fun i j iU gI dC an bm aM=>?_⟩;rw[bf]at ak;by_cases an:i=id;subst an;rw[if_pos rfl]at ak;cases ak;refine⟨c,o,s,_,eo,World.putObj_heap_same aB,?_⟩
  simp_all[vr]
  rw[if_neg an]at ak;exact put (al.ga i b ak) fun bV dK cl gX=>G7 i b bV dK cl an ak gX
  rw[bf]at ak;by_cases an:i=id
  simp_all
  rw[if_neg an]at ak;exact al.own i b ak aM;intro alB bH alC alD jb Kf Pt G5;rw[bf]at an bm;by_cases tf:i=id
  grind
  rw[if_neg tf]at an;by_cases rL:j=id
  grind
  rw[if_neg rL]at bm;exact al.lU i j iU gI dC an bm aM _ _ _ _ _ _ Pt G5
 have Pu:∀x,Cu σ (fx h H ⟨H.t,H.next,H.dS,l7 H.ed id v⟩) x->Cu σ h x:=by rintro x ⟨i,b,b3,dt,ak,aM,ao⟩;rw[bf]at ak;by_cases an:i=id;subst an;exact⟨i,_,b3,dt,hh,rfl,ao⟩;rw[if_neg an]at ak;exact⟨i,b,b3,dt,ak,aM,ao⟩
 refine⟨gb,Nat.le_refl _,fun _ _=>rfl,fun _ _ h=>h,rfl,rfl,rfl,Nat.le_of_eq World.putObj_size.symm,fun x ao eU=>?_,fun x ao _=>Pu x ao⟩;refine World.putObj_heap_other ?_;rintro rfl;exact eU ⟨id,_,o,s,hh,rfl,eo⟩
theorem alE{k e6:IntKind}(h:u1 k e6=true):k=e6:=by cases k<;>cases e6<;>first|rfl|cases h
theorem Kn{bS:Bool}{jS:TypeDesc}{key pN:Value}(ah:cq σ key pN)(rM:(bS=true/\jS=.string)\/(bS=false/\∃k,jS=.int k)):∀(aP:List MapEntry) (T:List Value) (x:Option Value) (i:Nat),bL σ T (aP.flatMap fun e=>[e.key,e.val])->xE bS key T=some x->
  match x with
  | none=>Instr.findNow jS pN aP i=some none
  | some v=>∃j aQ,Instr.findNow jS pN aP i=some (some (j,aQ))/\cq σ v aQ
 | [],T,x,i,bk,ao=>by
  obtain rfl:T=[]:=by cases bk;rfl
  cases ao;rfl
 | e::aP,T,x,i,bk,ao=>by
  cases T with
  | nil=>cases bk
  | cons k T=>
  cases T with
  | nil=>
   obtain⟨e6,dY,h1,h2,h3⟩:=bk.nF;have h1:e.key::(e.val::aP.flatMap fun e=>[e.key,e.val])=e6::dY:=h1;injection h1 with _ h1
   rw[<- h1]at h3;cases h3
  | cons v T=>
  obtain⟨e6,dY,h1,h2,h3⟩:=bk.nF;obtain⟨aQ,r2,aG,a6,bq⟩:=h3.nF;have h1:e.key::(e.val::aP.flatMap fun e=>[e.key,e.val])=e6::dY:=h1;injection h1 with cg cd
  rw[aG]at cd;injection cd with g3 g4
  subst cg;subst g3;subst g4;have ao:(match Ej bS key k with|some true=>some (some v)|some false=>xE bS key T|none=>none)=some x:=ao;have aU:∀b,Ej bS key k=some b->Instr.sameNow jS pN e.key=some b:=by
   intro b ak;rcases rM with⟨rfl,rfl⟩|⟨rfl,pO,rfl⟩
   ·cases key with
    | string dt=>
     cases k with
     | string cP=>
      have a7:pN=.string dt:=by cases ah;rfl
      have bt:e.key=.string cP:=by generalize e.key=z at h2;cases h2;rfl
      rw[a7,bt];exact ak
     | _=>cases ak
    | _=>cases ak
   ·cases key with
    | int dZ fw=>
     cases k with
     | int gd dV=>
      have a7:pN=.int dZ fw:=by cases ah;rfl
      have bt:e.key=.int gd dV:=by generalize e.key=z at h2;cases h2;rfl
      rw[a7,bt]
      replace ak:(match u1 dZ gd with|true=>some (pD fw dV)|false=>none)=some b:=ak
      cases hkk:u1 dZ gd with
      | true=>
       rw[hkk]at ak;have ak:some (pD fw dV)=some b:=ak;have:=alE hkk;subst this;injection ak with ak
       subst ak;show(if dZ=dZ then some (fw==dV)else none)=_;rw[if_pos rfl,sq]
       congr 1
      | false=>simp_all
     | _=>cases ak
    | _=>cases ak
  have hf:Instr.findNow jS pN (e::aP) i=(match Instr.sameNow jS pN e.key with|some true=>some (some (i,e.val))|some false=>Instr.findNow jS pN aP (i+1)|none=>none):=rfl;rw[hf];cases ak:Ej bS key k with
  | none=>simp_all
  | some b=>
   rw[ak]at ao;rw[aU b ak];cases b with
   | true=>grind
   | false=>exact Kn ah rM aP T x (i+1) bq ao
theorem Pv{e:Bool}{wN:TypeId}{jS:TypeDesc}{key:Value}(bf:P.underlying wN=some jS)(rM:jS=.string\/∃k,jS=.int k)(w:World):(Instr.checkKey e 10000 wN key).run P w=.ok () w:=by show(Instr.checkKey e (9999+1) wN key).run P w=_;generalize 9999=d;simp only[Instr.checkKey,Sem.run_bind,run_underlying bf,Result.andThen_ok];rcases rM with rfl|⟨k,rfl⟩<;>rfl
theorem WT{c n:Nat}{aP:Array MapEntry}(h:w.heap[c]?=some (.map aP n)):(getObj c).run P w=.ok (.map aP n) w:=by simp[getObj,Sem.run,h]
theorem alF{c n:Nat}{aP:Array MapEntry}(dj:Go.Obj)(h:w.heap[c]?=some (.map aP n)):(setObj c dj).run P w=.ok () (w.putObj c dj):=by simp[setObj,Sem.run,h,World.putObj]
theorem WU{t:TypeId}{bS:Bool}{e:TypeId}(h:B2 P t=some (bS,e)):∃wN jS,P.underlying t=some (.map wN e)/\P.underlying wN=some jS/\((bS=true/\jS=.string)\/(bS=false/\∃k,jS=.int k)):=by grind[B2]
theorem Pw{wN:TypeId}{jS:TypeDesc}{key:Value}{aP:List MapEntry}{r:Option (Nat×Value)}(bf:P.underlying wN=some jS)(hf:Instr.findNow jS key aP 0=some r)(w:World):(Instr.findKey wN key aP).run P w=.ok r w:=by simp_all[Instr.findKey,run_underlying]
theorem WV(al:lW σ B h w)(vt:wM H h)(qO:pc H){m k3:Value}{T:List Value}(hm:cq σ m k3)(bk:Ek m H=some T):
  (m=.map none/\k3=.map none/\T=[])\/∃id c o s aP n r,m=.map (some id)/\k3=.map (some c)/\eZ H.ed id=some r/\nA r=true/\r.T=T/\σ id=some (c,o,s)/\w.heap[c]?=some (.map aP n)/\bL σ T (Ct aP):=by
 unfold Ek at bk;split at bk;split at bk;cases bk;cases hm;simp_all;rename_i id;split at bk;rename_i r aD;split at bk;rename_i G8;cases bk;obtain⟨_,_,c,o,s,aP,n,h1,_,h2,h3⟩:=al.map vt qO aD G8;cases hm
 simp_all
 grind
 grind
 grind
theorem alG(al:lW σ B h w)(vt:wM H h)(qO:pc H){t:TypeId}{ok:Bool}{m k3 key pN v:Value}(hm:cq σ m k3)(ah:cq σ key pN)(U:xF P t ok m key H=some (v,ab)):
  ab=H/\∃aQ,(Instr.lookup t k3 pN ok).run P w=.ok aQ w/\cq σ v aQ:=by
 unfold xF at U;split at U
 case h_2=>cases U
 case h_1 bS e o9=>
 split at U
 case h_2=>cases U
 case h_1 z dU=>
 split at U
 case h_2=>cases U
 case h_1 T bk=>
 obtain⟨wN,jS,EJ,Cy,rM⟩:=WU o9;have Ko:jS=.string\/∃k,jS=.int k:=by grind
 obtain⟨aP,qP,uh⟩:∃aP:Array MapEntry,bL σ T (Ct aP)/\∀x,Instr.findNow jS pN aP.toList 0=some x->(Instr.lookup t k3 pN ok).run P w=((match x with
   | some (_,v)=>pure (v,true)
   | none=>do pure (<- zeroValue e,false):Sem (Value×Bool)).run P w).andThen fun p aW=>.ok (if ok then .tuple #[p.1,.bool p.2]else p.1) aW:=by
  rcases WV al vt qO hm bk with⟨_,rfl,rfl⟩|⟨id,c,o,s,aP,n,r,_,rfl,_,_,_,_,h2,h3⟩
  ·refine⟨#[],.nil,fun x ao=>?_⟩;unfold Instr.lookup;simp only[Sem.run_bind,run_underlying EJ,Result.andThen_ok,Sem.run_pure,Pv Cy Ko,Pw Cy ao];cases x with
   | none=>simp_all[uc]
   | some y=>rfl
  ·refine⟨aP,h3,fun x ao=>?_⟩;unfold Instr.lookup;simp only[Sem.run_bind,run_underlying EJ,Result.andThen_ok,WT h2,Sem.run_pure,Pv Cy Ko,Pw Cy ao];cases x with
   | none=>simp_all[uc]
   | some y=>rfl
 split at U
 ·rename_i v0 hf;cases U;have alH:=Kn ah rM aP.toList T _ 0 qP hf;obtain⟨j,aQ,h1,h2⟩:=alH;refine⟨rfl,El ok aQ true,?_,?_⟩
  ·rw[uh _ h1];simp only[Sem.run_pure,Result.andThen_ok];cases ok<;>rfl
  ·cases ok
   ·exact h2
   ·exact .tuple _ _ (h2.cons (.bool true .nil)) .nil
 ·rename_i hf;cases U;have h1:=Kn ah rM aP.toList T _ 0 qP hf;obtain⟨mF,o8⟩:=uc dU w;refine⟨rfl,El ok z false,?_,?_⟩
  ·rw[uh _ h1];simp only[Sem.run_bind,mF,Sem.run_pure,Result.andThen_ok];cases ok<;>rfl
  ·cases ok
   ·exact wC o8
   ·exact .tuple _ _ ((wC o8).cons (.bool false .nil)) .nil
 grind
theorem Kp(al:lW σ B h w)(vt:wM H h)(qO:pc H){t:TypeId}{m k3 key pN x bR v:Value}(hm:cq σ m k3)(ah:cq σ key pN)(ao:cq σ x bR)(U:u9 P t m key x H=some (v,ab)):
  v=undef/\gJ H ab/\∃aW,(Instr.mapUpdate t k3 pN bR).run P w=.ok () aW/\jK B σ h H.next w σ (fx h H ab) ab.next aW:=by
 unfold u9 at U;split at U
 case h_2=>cases U
 case h_1 bS e o9=>
 split at U
 case h_2=>cases U
 case h_1 oN=>
 split at U
 case h_2=>cases U
 case h_1 id=>
 split at U
 case h_2=>cases U
 case h_1 nI=>
 split at U
 case h_2=>cases U
 case h_1 T bk=>
 split at U
 case h_2=>cases U
 case h_1 hf=>
 obtain⟨wN,jS,EJ,Cy,rM⟩:=WU o9;have Ko:jS=.string\/∃k,jS=.int k:=by grind
 rcases WV al vt qO hm bk with⟨aJ,_⟩|⟨ve,c,o,s,aP,n,r,aJ,rfl,aD,G8,_,eo,hh,qP⟩
 ·cases aJ
 cases aJ;cases U;have nI:H.dS<=id:=le_of_ble_eq_true nI;have h1:=Kn ah rM aP.toList T _ 0 qP hf;have Px:bL σ (T++[key,x]) (Ct (aP.push {key:=pN,val:=bR,born:=n})):=by unfold Ct;rw[Array.toList_push,flatMap_append];exact qP.append (ah.cons (ao.cons .nil))
 refine⟨rfl,WS nI aD,w.putObj c (.map (aP.push {key:=pN,val:=bR,born:=n}) (n+1)),?_,?_⟩
 ·unfold Instr.mapUpdate;rw[Sem.run_bind,run_underlying EJ,Result.andThen_ok];simp only[Sem.run_bind,WT hh,Result.andThen_ok,Pv Cy Ko,Pw Cy h1,alF _ hh]
 ·exact alz al vt qO aD G8 rfl eo (by grind[ki,jm])
theorem alI{t:TypeId}{ok:Bool}{m key v:Value}(U:xF P t ok m key H=some (v,ab)):gJ H ab:=by
 unfold xF at U
 grind[gJ.refl]
theorem alJ{id:Nat}{T:List Value}(h:Ek (.map (some id)) H=some T):∃r,eZ H.ed id=some r/\nA r=true/\r.T=T:=by
 have h:(match eZ H.ed id with|some r=>(match nA r with|true=>some r.T|false=>none)|none=>none)=some T:=h
 grind
theorem WW{t:TypeId}{m key x v:Value}(U:u9 P t m key x H=some (v,ab)):gJ H ab:=by
 unfold u9 at U;split at U
 case h_2=>cases U
 case h_1 bS e o9=>
 split at U
 case h_2=>cases U
 grind[alJ,WS,le_of_ble_eq_true]
end
end Go.Ab
namespace Go.Ab
open Go
variable[h7]
section
variable{P:Program}{B:Nat}{σ:c8}{h:Nat->Option Obj}{H ab:au}{w:World}{self:hQ}
theorem G9{x:Option xG}{v:Value}(U:vc self x H=some (v,ab)):∃t c6,x=some t/\self (JA H t)=some ⟨c6,[v],ab⟩:=by
 unfold vc at U
 grind
theorem EK(bI:iP P self){op:Op}{T:List Value}{v:Value}(hf:H.dS<=H.next)(U:(iu P op).f self T H=some (v,ab)):gJ H ab:=by
 have call:∀x,vc self x H=some (v,ab)->gJ H ab:=by intro x ao;obtain⟨t,c6,_,al⟩:=G9 ao;have:=bI.jc _ _ al;cases t<;>exact this hf
 unfold iu at U;split at U
 case h_2=>cases U
 case h_1=>
 unfold yL at U;split at U
 ·rename_i c;split at U
  ·exact(Kd hf U).WN
  ·grind
  grind
 ·grind[alw]
 ·exact alI U
 ·exact WW U
 ·exact WW U
 ·exact(Kd hf U).WN
theorem alK(c:Call)(de:TypeId)(a:Act)(f:FuncId)(first cap:Array Value)(aH:Operand)(aB:c.callee=.value aH)(hf:a.eval aH=.func (.func f) first cap)(w:World):
  (do let d<-resolve a.eval c de;invoke d.target d.args:Sem Next).run P w=(callFunc f (first++c.args.map a.eval++cap)).run P w:=by
 simp_all[resolve,Deferred.ofValue,invoke]
theorem alL(c:Call)(de:TypeId)(a:Act)(l:Nat)(aH:Operand)(aB:c.callee=.value aH)(hf:a.eval aH=.func (.yield l) #[] #[])(w:World):
  (do let d<-resolve a.eval c de;invoke d.target d.args:Sem Next).run P w=(Instr.yield l (c.args.map a.eval)).run P w:=by
 simp_all[resolve,Deferred.ofValue,invoke]
theorem Py(dW:cz P)(bI:iP P self)(o:Oper){T:List Value}{a:Act}{v:Value}{r:Option Nat}(al:lW σ B h w)(b6:B<=w.heap.size)(eP:As P σ)
  (jX:(ja P o.op=1\/ja P o.op=4)->∀x∈o.op.operands.toList,∀id,En ((ek x).g T)=some id->∀b,H.cX id=some b->h id=some b) (qO:pc H) (nI:H.dS<=H.next) (gF:ja P o.op=3->hK P B σ h H w) (cW:gN σ H.next ab.next) (bk:bL σ T a.tmps.toList)
  (U:(iu P o.op).f self T H=some (v,ab)) {next:Act->World->Prop} {Q:Exit->Act->World->Prop}
  (aU:∀aQ τ aW,cq τ v aQ->jK B σ h H.next w τ (fx h H ab) ab.next aW->next (a.put o.dst aQ) aW):o.wpIn (ew r) 0 P a w next Q:=by
 refine⟨fun _ _=>trivial,?_⟩;unfold iu at U;split at U
 case h_2=>cases U
 case h_1 fq=>
 have alM:(∀c,o.op≠.defer c)->(kP P o.op).f T H=some (v,ab)->o.uponIn (ew r) 0 P a next Q ((o.semAt (ew r).round a.eval).run P w):=by
  intro aO kk;rw[Oper.semAt_eq _ _ _ aO];obtain⟨nJ,aQ,aW,τ,h1,h2,h3,aG⟩:=ak4 (P:=P) o al.cells b6 eP bk cW fq (fun ah x ao id fp b ak=>xS.2 (jX ah x ao id fp _ (by simp_all[au.cX]))) kk;have m:=Kd nI kk;have aG:=jK.EE al aG m.cu (m.td qO);rw[h1];rcases h2 with rfl|⟨rfl,rfl⟩
  ·exact aU aQ τ aW h3 aG
  ·exact aU undef τ aW h3 aG
 have WX:∀f args gp c6,ja P o.op=3->(∃c,o.op=.call c)->(execOp a.eval o).run P w=(callFunc f gp).run P w->self (.call f args H)=some ⟨c6,[v],ab⟩->bL σ args gp.toList->o.uponIn (ew r) 0 P a next Q ((o.semAt (ew r).round a.eval).run P w):=by intro f args gp c6 y2 ⟨n5,EL⟩ he wO hv;obtain⟨⟨fn,c,hf,ak⟩,aB⟩:=bI.call f args H c6 v ab wO B σ h w gp (gF y2) cW hv;rw[Oper.semAt_eq _ _ _ (by simp_all),he,Kk dW hf ak];rw[Oper.uponIn_enter];refine⟨fun aO=>absurd aO (by simp),?_⟩;have:CallsIn (ew r) 0 P f gp w (fun e aW=>∃aQ τ aT,e=.returned aQ/\cq τ v aQ/\fW B σ h H w τ aT ab aW):=aB;refine CallsIn.mono this ?_;rintro e aW ⟨aQ,τ,aT,rfl,h1,h2⟩;exact aU aQ τ aW h1 (h2.hD.Kj h2.yZ)
 rw[kH,all_eq_true]at fq;have WY:∀ {t:TypeId} {m pO x:Operand},ja P o.op=3->o.op.operands=#[m,pO,x]->(∀c,o.op≠.defer c)->execOp a.eval o=(do Instr.mapUpdate t (a.eval m) (a.eval pO) (a.eval x);pure .skip)->u9 P t ((ek m).g T) ((ek pO).g T) ((ek x).g T) H=some (v,ab)->o.uponIn (ew r) 0 P a next Q ((o.semAt (ew r).round a.eval).run P w):=by intro t m pO x y2 WZ aO rN bf;have k:=gF y2;obtain⟨rfl,hm,aW,h1,h2⟩:=Kp al k.sub qO (wJ (P:=P) bk eP m (fq m (by simp_all))) (wJ (P:=P) bk eP pO (fq pO (by simp_all))) (wJ (P:=P) bk eP x (fq x (by simp_all))) bf;rw[Oper.semAt_eq _ _ _ aO,rN];simp only[Sem.run_bind,h1,Result.andThen_ok,Sem.run_pure,Oper.uponIn_skip];exact aU undef σ aW .undef h2
 unfold yL at U;split at U
 case h_6 Xa alN aE5 aE6 dC=>refine alM ?_ U;intro c e;rw[e]at U;cases U
 case h_2 t nJ kk=>
  split at U
  case h_2=>cases U
  case h_1=>
  cases U;have y2:ja P o.op=3:=by simp_all[ja]
  have k:=gF y2;obtain⟨τ,cg,cd⟩:=alx al b6 qO (cW _ (Nat.le_refl _) (lt_succ_self _)) trivial;rw[Oper.semAt_eq _ _ _ (by simp_all)];have rN:(execOp a.eval o).run P w=.ok (.value (.map (some w.heap.size))) (w.alloc (.map #[] 0)):=by simp_all[execOp,Instr.makeMap]
  grind[Oper.uponIn_value]
 case h_3 t x i ok kk=>
  have y2:ja P o.op=3:=by simp_all[ja]
  have k:=gF y2;obtain⟨rfl,aQ,h1,h2⟩:=alG al k.sub qO (wJ (P:=P) bk eP x (fq x (by simp_all[Op.operands]))) (wJ (P:=P) bk eP i (fq i (by simp_all[Op.operands]))) U;rw[Oper.semAt_eq _ _ _ (by simp_all)];have rN:(execOp a.eval o).run P w=.ok (.value aQ) w:=by simp_all[execOp]
  rw[rN,Oper.uponIn_value];refine aU aQ σ w h2 ?_
  simp_all[EG,jK.refl]
 case h_4 t m pO x kk=>exact WY (by simp_all[ja]) (by rw[kk];rfl) (by simp_all) (by simp_all[execOp]) U
 case h_5 t m pO x kk=>exact WY (by simp_all[ja]) (by rw[kk];rfl) (by simp_all) (by simp_all[execOp]) U
 case h_1 c kk=>
  have rN:execOp a.eval o=(do let d<-resolve a.eval c o.type;invoke d.target d.args:Sem Next):=by simp_all[execOp]
  have Cz:bL σ (kO c.args.toList T) (c.args.map a.eval).toList:=by
   have:=Kc (P:=P) bk eP c.args.toList fun y ba=>fq y (by simp_all[Op.operands,Call.operands])
   simp_all
  split at U
  case h_1 b ak=>simp_all
  case h_2 aH aB=>
   obtain⟨t,c6,ao,wO⟩:=G9 U;have EM:=wJ (P:=P) bk eP aH (fq aH (by simp_all[Op.operands,Call.operands]));unfold vb at ao;split at ao
   case h_2=>cases ao
   case h_1 fn first cap oO=>
   split at ao
   case h_3=>cases ao
   case h_2 l=>
    split at ao
    case h_2=>cases ao
    case h_1=>
    cases ao;rw[oO]at EM;generalize rO:a.eval aH=fv at EM;cases EM;rename_i cc O1 fy eo _ _;obtain⟨fn,tmps,c9,body,ba,aX⟩:=bI.round l _ H c6 v ab wO B σ h w (c.args.map a.eval) cc O1 fy r (gF (by simp_all[ja])) cW Cz eo;rw[Oper.semAt_eq _ _ _ (by simp_all),rN,alL c o.type a cc aH aB rO w,ba,Oper.uponIn_round];refine⟨fun aO=>absurd aO (by simp),RoundIn.mono aX ?_⟩;rintro e aW ⟨aQ,τ,aT,rfl,h1,h2⟩;exact aU aQ τ aW h1 (h2.hD.Kj h2.yZ)
   case h_1 g=>
   cases ao;rw[oO]at EM;generalize rO:a.eval aH=fv at EM;cases EM;rename_i y5 vp alO Pz _;refine WX g _ (y5++c.args.map a.eval++vp) c6 (by simp_all[ja]) ⟨c,kk⟩ ?_ wO ?_
   ·grind[alK]
   ·rw[jm,jm];simp only[Array.toList_append];rw[append_assoc];exact alO.append (Cz.append Pz)
  case h_3 PA name aB=>
   obtain⟨tt,c6,ao,wO⟩:=G9 U;have PB:=wJ (P:=P) bk eP PA (fq PA (by simp_all[Op.operands,Call.operands]));unfold Ow at ao;split at ao
   case h_2=>cases ao
   case h_1 t u alP=>
   split at ao
   case h_2=>cases ao
   case h_1 rP ai hm=>
   split at ao
   case h_2=>cases ao
   case h_1 b bJ=>
   split at ao
   case isFalse=>cases ao
   case isTrue Xb=>
   cases ao;rw[alP]at PB;generalize rO:a.eval PA=gk at PB;cases PB;rename_i pa bf _;have Xb:b=ai:=by simp_all
   subst Xb;refine WX rP _ (#[pa]++c.args.map a.eval) c6 (by simp_all[ja]) ⟨c,kk⟩ ?_ wO ?_
   ·rw[rN];have alQ:∀gp:Array Value,invoke (.fn (.method name) #[]) (#[Value.iface t pa]++gp)=callMethod (.iface t pa) name gp:=by
     intro gp;have eX:(#[Value.iface t pa]++gp)[0]?=some (.iface t pa):=by grind
     have a7:(#[Value.iface t pa]++gp).extract 1 (#[Value.iface t pa]++gp).size=gp:=by simp_all
     grind[invoke]
    simp only[resolve,aB,rO,Sem.run_bind,Sem.run_pure,Result.andThen_ok,alQ];simp only[callMethod,Sem.run_bind,run_program,Result.andThen_ok];have PC:=als (P:=P) hm bJ pa w (P.types.size+Made.depth-1)
    simp_all[Made.depth]
   ·simp only[Array.toList_append];exact bf.cons Cz
theorem Kq(dW:cz P)(bI:iP P self)(o:Oper){T:List Value}{a:Act}{v:Value}{r:Option Nat}(k:hK P B σ h H w)(cW:gN σ H.next ab.next)(bk:bL σ T a.tmps.toList)
  (U:(iu P o.op).f self T H=some (v,ab)) {next:Act->World->Prop} {Q:Exit->Act->World->Prop}
  (aU:∀aQ τ aT aW,cq τ v aQ->fW B σ h H w τ aT ab aW->next (a.put o.dst aQ) aW):o.wpIn (ew r) 0 P a w next Q:=
 Py dW bI o k.gb k.b6 k.Pq (fun _ _ _ id _ b ak=>k.sub id b ak) k.wf k.dc (fun _=>k) cW bk U fun aQ τ aW hv g=>aU aQ τ _ aW hv (fW.alr k g (EK bI k.dc U))
theorem vw(bI:iP P self)(all:List Oper):∀(l:List Oper) (T:List Value) (H:au) (a1:el),H.dS<=H.next->jQ P self all l T H=some a1->gJ H a1.H/\a1.c6=.normal
 | [],T,H,a1,_,U=>by cases U;exact⟨gJ.refl H,rfl⟩
 | o::l,T,H,a1,hf,U=>by have gD:gW P self o ((iT all o.guard).f T) T H (jQ P self all l)=some a1:=U;unfold gW at gD;split at gD;split at gD;rename_i v bB al;have m:=EK bI hf al;have bg:=vw bI all l _ bB a1 (m.wf hf) gD;exact⟨m.trans bg.1,bg.2⟩;cases gD;exact vw bI all l _ H a1 hf gD
theorem Ha(dW:cz P)(bI:iP P self)(bD:Array Oper)(r:Option Nat){Q:Exit->Act->World->Prop}:∀(l:List Oper) (i:Nat),bD.toList.drop i=l->
  ∀(σ:c8) (h:Nat->Option Obj) (T:List Value) (H:au) (w:World) (a:Act) (a1:el),hK P B σ h H w->gN σ H.next a1.H.next->bL σ T a.tmps.toList->jQ P self bD.toList l T H=some a1->
  (∀ τ aT cH aW,bL τ a1.T cH.tmps.toList->cH.defers=a.defers->fW B σ h H w τ aT a1.H aW->Q .normal cH aW)->wpOpsIn (ew r) 0 P bD Q (List.range' i l.length) a w
 | [],i,aD,σ,h,T,H,w,a,a1,k,cW,bk,U,bY=>by cases U;exact bY σ h a w bk rfl (fW.refl k)
 | o::l,i,aD,σ,h,T,H,w,a,a1,k,cW,bk,U,bY=>by
  have bM:bD[i]?=some o:=by
   have:(bD.toList.drop i)[0]?=some o:=by rw[aD];rfl
   simpa using this
  have wP:bD.toList.drop (i+1)=l:=by
   have:(bD.toList.drop i).drop 1=l:=by rw[aD];rfl
   rwa [drop_drop]at this
  have gD:gW P self o ((iT bD.toList o.guard).f T) T H (jQ P self bD.toList l)=some a1:=U;unfold gW at gD;simp only[length_cons,List.range'_succ,wpOpsIn,bM];have aM:=WR bk (bD:=bD) o;split at gD;rename_i EN;rw[EN]at aM;rw[if_pos aM];split at gD;rename_i v bB al;have fw:=EK bI k.dc al;have dV:=vw bI bD.toList l _ bB a1 (fw.wf k.dc) gD;refine Kq dW bI o k (cW.left dV.1.dO) bk al ?_;intro aQ τ aT aW hv st;obtain⟨dx,bp⟩:=xU (σ:=τ) (bk.mono st.hD.mono) o.dst hv;refine Ha dW bI bD r l (i+1) wP τ aT _ bB aW _ a1 (k.next st) (cW.right st.hD) dx gD ?_;intro jB h2 cH fb bP q2 cS;exact bY jB h2 cH fb bP (q2.trans bp) (st.trans k (cW.left dV.1.dO) cS);cases gD;rename_i EN;rw[EN]at aM;rw[if_neg (by rw[aM];simp)];refine⟨fun _ _=>trivial,?_⟩;obtain⟨dx,bp⟩:=xU bk o.dst (cq.undef (σ:=σ));refine Ha dW bI bD r l (i+1) wP σ h _ H w _ a1 k cW dx gD ?_;intro jB h2 cH fb bP q2 cS;exact bY jB h2 cH fb bP (q2.trans bp) cS
end
end Go.Ab
namespace Go.Ab
open Go
variable[h7]
theorem alR{h:Nat->Option Obj}{A hT B dG:au}(aO:∀id,hT.cX id=A.cX id\/dG.cX id=B.cX id):fx (fx h A hT) B dG=fx (fx h B dG) A hT:=by grind[fx]
theorem PD{T:List Value}{d:Option Tmp}{v:Value}{t:Nat}(h:d≠some t):cf (iO T d v) t=cf T t:=by
 cases d with
 | none=>rfl
 | some d=>
  show cf (hs T d v) t=_
  simp_all[pJ,pI]
theorem alS{A C:List Value}{d:Option Tmp}{v:Value}{t:Nat}(h:cf A t=cf C t)(aD:A.length=C.length):cf (iO A d v) t=cf (iO C d v) t:=by
 by_cases aO:d=some t;subst aO;show cf (hs A t v) t=cf (hs C t v) t
 grind[pJ,pI]
 simp_all[PD]
theorem Kr{T:List Value}{d:Option Tmp}{v:Value}:(iO T d v).length=T.length:=by
 cases d with
 | none=>rfl
 | some d=>show(hs T d v).length=_;simp_all[pJ]
theorem alT{T:List Value}{d e:Option Tmp}{v u:Value}(h:∀x,d=some x->e≠some x):iO (iO T d v) e u=iO (iO T e u) d v:=by
 cases d with
 | none=>rfl
 | some d=>
  cases e with
  | none=>rfl
  | some e=>
   show hs (hs T d v) e u=hs (hs T e u) d v
   simp_all[pJ,set_comm]
structure gO where
 o:Oper
 p:nD
 T:List Value
 H:au
 v:Value
 ab:au
 w:Bool
noncomputable def gO.lj(e:gO):mD:=tY e.o e.p e.T e.H e.ab
noncomputable def jq(S:Nat->Bool):List Value->List gO->List Value
 | T,[]=>T
 | T,e::r=>jq S (if S e.p.cZ then iO T e.o.dst e.v else T) r
noncomputable def jd(S:Nat->Bool):(Nat->Option Obj)->List gO->(Nat->Option Obj)
 | h,[]=>h
 | h,e::r=>jd S (if S e.p.cZ then fx h e.H e.ab else h) r
noncomputable def qQ:List Value->au->List gO->List Value->au->Prop
 | T,H,[],dA,ab=>T=dA/\H=ab
 | T,H,e::r,dA,ab=>e.T=T/\e.H=H/\qQ (iO T e.o.dst e.v) e.ab r dA ab
theorem PE(S:Nat->Bool)(a b:List gO):∀T,jq S T (a++b)=jq S (jq S T a) b:=by
 induction a with
 | nil=>intro T;rfl
 | cons e r bg=>intro T;exact bg _
theorem Xc(S:Nat->Bool)(a b:List gO):∀h,jd S h (a++b)=jd S (jd S h a) b:=by
 induction a with
 | nil=>intro T;rfl
 | cons e r bg=>intro T;exact bg _
theorem qQ.split{T dA:List Value}{H ab:au}{a:List gO}{e:gO}{b:List gO}(c:qQ T H (a++e::b) dA ab):qQ T H a e.T e.H/\qQ (iO e.T e.o.dst e.v) e.ab b dA ab:=by
 induction a generalizing T H with
 | nil=>obtain⟨h1,h2,h3⟩:=c;subst h1;subst h2;exact⟨⟨rfl,rfl⟩,h3⟩
 | cons x r bg=>obtain⟨h1,h2,h3⟩:=c;obtain⟨i1,k2⟩:=bg h3;exact⟨⟨h1,h2,i1⟩,k2⟩
theorem Xd{S:Nat->Bool}{id:Nat}:∀ {pre:List gO} {T dA:List Value} {H ab:au} {h:Nat->Option Obj},qQ T H pre dA ab->(∀k∈pre,S k.p.cZ=false->k.ab.cX id=k.H.cX id)->(∀b,H.cX id=some b->h id=some b)->
  ∀b,ab.cX id=some b->jd S h pre id=some b
 | [],_,_,_,_,_,c,_,aJ,b,ak=>by obtain⟨_,rfl⟩:=c;exact aJ b ak
 | e::r,T,dA,H,ab,h,c,aU,aJ,b,ak=>by
  obtain⟨rfl,rfl,c⟩:=c;show jd S (if S e.p.cZ then fx h e.H e.ab else h) r id=some b;refine Xd c (fun k ah=>aU k (by simp[ah])) (fun b ak=>?_) b ak;by_cases bI:S e.p.cZ=true;simp only[bI,if_true]
  grind[fx]
  grind
theorem Xe{S:Nat->Bool}{id:Nat}:∀ {post:List gO} {h:Nat->Option Obj},(∀k∈post,S k.p.cZ=true->k.ab.cX id=k.H.cX id)->jd S h post id=h id
 | [],_,_=>rfl
 | e::r,h,aU=>by
  show jd S (if S e.p.cZ then fx h e.H e.ab else h) r id=h id;rw[Xe (fun k ah=>aU k (by simp[ah]))];split
  simp_all[fx]
  rfl
theorem alU{S:Nat->Bool}{id:Nat}{pre post:List gO}{j:gO}{T dA:List Value}{H ab:au}{h:Nat->Option Obj}(c:qQ T H (pre++j::post) dA ab)(bm:S j.p.cZ=false)
  (h1:∀k∈pre,S k.p.cZ=false->k.ab.cX id=k.H.cX id) (h2:∀k∈post,S k.p.cZ=true->k.ab.cX id=k.H.cX id) (aJ:∀b,H.cX id=some b->h id=some b):
  ∀b,j.H.cX id=some b->jd S h (pre++j::post) id=some b:=by
 intro b ak;rw[Xc];show jd S (if S j.p.cZ then fx _ j.H j.ab else jd S h pre) post id=some b;rw[Xe h2];simp only[bm,Bool.false_eq_true,if_false];exact Xd c.split.1 h1 aJ b ak
theorem Xf{S:Nat->Bool}{A hT:au}:∀ {post:List gO} {h:Nat->Option Obj},(∀k∈post,S k.p.cZ=true->∀id,hT.cX id=A.cX id\/k.ab.cX id=k.H.cX id)->jd S (fx h A hT) post=fx (jd S h post) A hT
 | [],_,_=>rfl
 | e::r,h,aU=>by
  show jd S (if S e.p.cZ then fx (fx h A hT) e.H e.ab else fx h A hT) r=fx (jd S (if S e.p.cZ then fx h e.H e.ab else h) r) A hT;have bg:=fun h=>Xf (S:=S) (A:=A) (hT:=hT) (post:=r) (h:=h) (fun k ah=>aU k (by simp[ah]))
  split;rename_i bI;rw[alR (aU e (by simp) bI),bg];exact bg h
theorem Xg{S h8:Nat->Bool}:∀ {l:List gO} {h:Nat->Option Obj},(∀k∈l,h8 k.p.cZ=S k.p.cZ)->jd h8 h l=jd S h l
 | [],_,_=>rfl
 | e::r,h,aU=>by simp_all[jd,Xg]
theorem alV{S h8:Nat->Bool}{pre post:List gO}{j:gO}{h:Nat->Option Obj}(bm:S j.p.cZ=false)(pK:h8 j.p.cZ=true)(al:∀k∈pre++post,h8 k.p.cZ=S k.p.cZ)
  (aU:∀k∈post,S k.p.cZ=true->∀id,j.ab.cX id=j.H.cX id\/k.ab.cX id=k.H.cX id):jd h8 h (pre++j::post)=fx (jd S h (pre++j::post)) j.H j.ab:=by
 simp_all[Xc,jd,Xg,Xf]
theorem PF{S:Nat->Bool}{t:Nat}:∀ {pre:List gO} {T dA A:List Value} {H ab:au},qQ T H pre dA ab->(∀k∈pre,S k.p.cZ=false->k.o.dst≠some t)->cf A t=cf T t->A.length=T.length->
  cf (jq S A pre) t=cf dA t/\(jq S A pre).length=dA.length
 | [],_,_,_,_,_,c,_,aJ,aD=>by obtain⟨rfl,_⟩:=c;exact⟨aJ,aD⟩
 | e::r,T,dA,A,H,ab,c,aU,aJ,aD=>by
  obtain⟨rfl,rfl,c⟩:=c;show cf (jq S (if S e.p.cZ then iO A e.o.dst e.v else A) r) t=cf dA t/\(jq S (if S e.p.cZ then iO A e.o.dst e.v else A) r).length=_;by_cases bI:S e.p.cZ=true;simp only[bI,if_true];exact PF c (fun k ah=>aU k (by simp[ah])) (alS aJ aD) (by rw[Kr,Kr,aD]);have bI:S e.p.cZ=false:=by simpa using bI
  simp only[bI,Bool.false_eq_true,if_false];exact PF c (fun k ah=>aU k (by simp[ah])) (by rw[PD (aU e (by simp) bI),aJ]) (by rw[Kr,aD])
theorem Xh{S:Nat->Bool}{t:Nat}:∀ {post:List gO} {A:List Value},(∀k∈post,S k.p.cZ=true->k.o.dst≠some t)->cf (jq S A post) t=cf A t
 | [],_,_=>rfl
 | e::r,A,aU=>by show cf (jq S (if S e.p.cZ then iO A e.o.dst e.v else A) r) t=cf A t;rw[Xh (fun k ah=>aU k (by simp[ah]))];split;rename_i bI;exact PD (aU e (by simp) bI);rfl
theorem alW{S:Nat->Bool}{t:Nat}{pre post:List gO}{j:gO}{T dA:List Value}{H ab:au}(c:qQ T H (pre++j::post) dA ab)(bm:S j.p.cZ=false)
  (h1:∀k∈pre,S k.p.cZ=false->k.o.dst≠some t) (h2:∀k∈post,S k.p.cZ=true->k.o.dst≠some t):cf (jq S T (pre++j::post)) t=cf j.T t:=by
 rw[PE];show cf (jq S (if S j.p.cZ then _ else jq S T pre) post) t=_;rw[Xh h2];simp only[bm,Bool.false_eq_true,if_false];exact(PF c.split.1 h1 rfl rfl).1
theorem Xi{S:Nat->Bool}{d:Option Tmp}{v:Value}:∀ {post:List gO} {A:List Value},(∀k∈post,S k.p.cZ=true->∀x,d=some x->k.o.dst≠some x)->jq S (iO A d v) post=iO (jq S A post) d v
 | [],_,_=>rfl
 | e::r,A,aU=>by
  show jq S (if S e.p.cZ then iO (iO A d v) e.o.dst e.v else iO A d v) r=iO (jq S (if S e.p.cZ then iO A e.o.dst e.v else A) r) d v;have bg:=fun A=>Xi (S:=S) (d:=d) (v:=v) (post:=r) (A:=A) (fun k ah=>aU k (by simp[ah]))
  split;rename_i bI;rw[alT (aU e (by simp) bI),bg];exact bg A
theorem Xj{S h8:Nat->Bool}:∀ {l:List gO} {A:List Value},(∀k∈l,h8 k.p.cZ=S k.p.cZ)->jq h8 A l=jq S A l
 | [],_,_=>rfl
 | e::r,A,aU=>by simp_all[jq,Xj]
theorem alX{S h8:Nat->Bool}{pre post:List gO}{j:gO}{T:List Value}(bm:S j.p.cZ=false)(pK:h8 j.p.cZ=true)(al:∀k∈pre++post,h8 k.p.cZ=S k.p.cZ)
  (aU:∀k∈post,S k.p.cZ=true->∀x,j.o.dst=some x->k.o.dst≠some x):jq h8 T (pre++j::post)=iO (jq S T (pre++j::post)) j.o.dst j.v:=by
 rw[PE,PE];show jq h8 (if h8 j.p.cZ then iO (jq h8 T pre) j.o.dst j.v else _) post=iO (jq S (if S j.p.cZ then _ else jq S T pre) post) j.o.dst j.v
 simp_all[Xj,Xi]
theorem wQ(m i:Nat):iD m i=m.testBit i:=by
 have h1:Nat.land (Nat.shiftRight m i) 1=(m>>>i)%2:=and_one_is_mod (m>>>i)
 grind[iD,Nat.shiftRight_eq_div_pow,eq_of_beq_eq_true,ne_of_beq_eq_false]
def Au(all:List Oper)(S:Nat->Bool):Prop:=∀(i:Nat) (o:Oper),all[i]?=some o->S i=true->∀e∈o.after.toList,Region.binds .any e=true->S e.on=true
theorem alY(ms:List Nat)(o:Oper)(k:Nat)(ah:iD (JB ms o) k=true):∃e∈o.after.toList,Region.binds .any e=true/\(k=e.on\/∃m,ms[e.on]?=some m/\iD m k=true):=by
 unfold JB at ah;have JP:∀(l:List Edge) (s:Nat),iD (l.foldl (fun s e=>match Region.binds .any e with
   | true=>Nat.lor s (Nat.lor (Nat.shiftLeft 1 e.on) (match o1 ms e.on with|some m=>m|none=>0))
   | false=>s) s) k=true->iD s k=true\/∃e∈l,Region.binds .any e=true/\(k=e.on\/∃m,ms[e.on]?=some m/\iD m k=true):=by
  intro l;induction l with
  | nil=>simp_all
  | cons e r bg=>
   intro s h;rcases bg _ h with h|⟨qL,h1,h2⟩
   simp only at h;cases ak:Region.binds .any e with
   | false=>simp_all
   | true=>
    rw[ak]at h;simp only[wQ]at h;rw[show∀a b:Nat,Nat.lor a b=a|||b from fun _ _=>rfl,show∀a b:Nat,Nat.lor a b=a|||b from fun _ _=>rfl,testBit_or,testBit_or]at h;simp only[Bool.or_eq_true]at h;rcases h with h|h|h
    simp_all[wQ]
    right;refine⟨e,by simp,ak,.inl ?_⟩;have:Nat.shiftLeft 1 e.on=1<<<e.on:=rfl;rw[this,testBit_shiftLeft]at h;simp only[Bool.and_eq_true,decide_eq_true_eq]at h
    grind[testBit_one_eq_true_iff_self_eq_zero]
    right;refine⟨e,by simp,ak,.inr ?_⟩;rw[wB]at h;cases hm:ms[e.on]? with
    | none=>simp_all
    | some m=>simp_all[wQ]
   grind
 rcases JP _ _ ah with h|h
 simp_all[wQ]
 exact h
def Hb(all:List Oper)(i m:Nat):Prop:=∀S,Au all S->∀k,iD m k=true->∃o,all[i]?=some o/\((∀e∈o.after.toList,Region.binds .any e=true->S e.on=true)->S k=true)
theorem Xk(all:List Oper):∀(l:List Oper) (ms:List Nat),all.drop ms.length=l->(∀i m,ms[i]?=some m->Hb all i m)->∀i m,(GD ms l)[i]?=some m->Hb all i m
 | [],ms,_,hm,i,m,h=>hm i m h
 | o::l,ms,aD,hm,i,m,h=>by
  have bM:all[ms.length]?=some o:=by
   have:(all.drop ms.length)[0]?=some o:=by rw[aD];rfl
   simpa using this
  refine Xk all l (iC ms [JB ms o]) ?_ ?_ i m h;rw[jm,length_append];have:(all.drop ms.length).drop 1=l:=by rw[aD];rfl
  rwa [drop_drop]at this
  intro j q bY;rw[jm]at bY;by_cases bm:j<ms.length;rw[List.getElem?_append_left bm]at bY;exact hm j q bY;rw[List.getElem?_append_right (by omega)]at bY;have:j-ms.length=0:=by
   rcases eq_zero_or_pos (j-ms.length)with aJ|aJ
   exact aJ;rw[List.getElem?_eq_none (by simp;omega)]at bY;cases bY
  rw[this]at bY;simp at bY;subst bY;obtain rfl:j=ms.length:=by omega
  intro S bI k ah;refine⟨o,bM,fun aO=>?_⟩;obtain⟨e,he,ak,aB⟩:=alY ms o k ah;rcases aB with rfl|⟨k3,OQ,Xl⟩
  exact aO e he ak;obtain⟨dK,alZ,wO⟩:=hm e.on k3 OQ S bI k Xl;exact wO (fun qL y7 kj=>bI e.on dK alZ (aO e he ak) qL y7 kj)
theorem Xm:∀(l:List Oper) (ms:List Nat) (i j:Nat) (x:Oper×Nat×Nat),(xH i l ms)[j]?=some x->l[j]?=some x.1/\x.2.1=i+j/\ms[j]?=some x.2.2
 | [],_,i,j,x,h=>by simp[xH]at h
 | o::r,[],i,j,x,h=>by simp[xH]at h
 | o::r,m::ms,i,j,x,h=>by
  cases j with
  | zero=>simp[xH]at h;subst h;exact⟨rfl,rfl,rfl⟩
  | succ j=>
   have aT:(xH (Nat.succ i) r ms)[j]?=some x:=by simpa [xH]using h
   obtain⟨h1,h2,h3⟩:=Xm r ms _ j x aT;exact⟨by simpa using h1,by omega,by simpa using h3⟩
theorem al0(l:List Oper):∀ms,(GD ms l).length=ms.length+l.length:=by
 induction l with
 | nil=>intro ms;rfl
 | cons o r bg=>grind[GD,jm]
theorem Xn:∀(l:List Oper) (ms:List Nat) (i:Nat),l.length=ms.length->(xH i l ms).length=l.length
 | [],[],_,_=>rfl
 | o::r,m::ms,i,h=>by simp[xH,Xn r ms _ (by simpa using h)]
theorem Xo(l:List Oper):(B6 l).length=l.length:=Xn _ _ _ (by rw[VS,al0];simp)
theorem Xp(l:List Oper)(j:Nat)(x:Oper×Nat×Nat)(h:(B6 l)[j]?=some x):l[j]?=some x.1/\x.2.1=j/\Hb l j x.2.2:=by obtain⟨h1,h2,h3⟩:=Xm _ _ _ _ _ h;refine⟨h1,by omega,Xk l l [] (by simp) (by simp) j _ h3⟩
section
variable{P:Program}{H:au}
theorem Xq{bo:hQ}{op:Op}{T dA:List Value}(h:∀x∈op.operands.toList,(ek x).g T=(ek x).g dA):(iu P op).f bo T H=(iu P op).f bo dA H:=by
 unfold iu;split;unfold yL;split
 grind[WK,Op.operands,Call.operands,EC,map_congr_left]
 grind
 simp_all[Op.operands]
 simp_all[Op.operands]
 simp_all[Op.operands]
 exact WK h;rfl
end
end Go.Ab
namespace Go.Ab
open Go
variable[h7]
section
variable{P:Program}{bo:hQ}
structure Av (P:Program) (bo:hQ) (all:List Oper) (e:gO):Prop where
 w:e.w=(iT all e.o.guard).f e.T
 mL:e.w=true->ua P bo e.o e.p e.T e.H=some (e.v,e.ab)
 ld:e.w=false->e.v=undef/\e.ab=e.H
def Xr(k j:gO):Prop:=k.w=true->j.w=true->j.p.e0≠0->iD j.p.lS k.p.cZ=true\/tZ k.lj j.lj=true
theorem al1{p:nD}{j:mD}{dI:List mD}(hf:GG p j dI=true)(bm:j.e0≠0):∀k∈dI,iD p.lS k.cZ=true\/tZ k j=true:=by simp_all[GG,kH]
theorem Ks(all:List Oper):∀(l:List (Oper×nD)) (T:List Value) (H:au) (dI:List mD) (a1:el),qE P bo all l T H dI=some a1->
  a1.c6=.normal/\∃aP:List gO,qQ T H aP a1.T a1.H/\aP.map (fun e=>(e.o,e.p))=l/\(∀e∈aP,Av P bo all e)/\aP.Pairwise Xr/\
   (∀e∈aP,e.w=true->e.p.e0≠0->∀k∈dI,iD e.p.lS k.cZ=true\/tZ k e.lj=true)
 | [],T,H,dI,a1,U=>by cases U;exact⟨rfl,[],⟨rfl,rfl⟩,rfl,by simp,.nil,by simp⟩
 |(o,p)::l,T,H,dI,a1,U=>by
  have gD:so P bo o p ((iT all o.guard).f T) T H dI (qE P bo all l)=some a1:=U;unfold so at gD;split at gD;rename_i aM;split at gD;rename_i v ab al;split at gD;rename_i hf;obtain⟨aJ,aP,h1,h2,h3,aG,a6⟩:=Ks all l _ _ _ a1 gD;refine⟨aJ,⟨o,p,T,H,v,ab,true⟩::aP,⟨rfl,rfl,h1⟩,by simp[h2],?_,?_,?_⟩;intro e he;rcases mem_cons.1 he with rfl|he
  exact⟨aM.symm,fun _=>al,fun h=>by cases h⟩;exact h3 e he;refine pairwise_cons.2 ⟨fun j bm _ PG al2=>?_,aG⟩;have Kt:tY o p T H ab∈tY o p T H ab::dI:=mem_cons_self ..;exact a6 j bm PG al2 _ Kt;intro e he Ak Ku k ah;rcases mem_cons.1 he with rfl|he
  exact al1 hf Ku k ah;exact a6 e he Ak Ku k (mem_cons_of_mem _ ah);cases gD;cases gD;rename_i aM;obtain⟨aJ,aP,h1,h2,h3,aG,a6⟩:=Ks all l _ _ _ a1 gD;refine⟨aJ,⟨o,p,T,H,undef,H,false⟩::aP,⟨rfl,rfl,h1⟩,by simp[h2],?_,?_,?_⟩;intro e he;rcases mem_cons.1 he with rfl|he
  exact⟨aM.symm,fun h=>(by cases h),fun _=>⟨rfl,rfl⟩⟩;exact h3 e he;refine pairwise_cons.2 ⟨fun j bm h=>(by cases h),aG⟩;intro e he Ak Ku k ah;rcases mem_cons.1 he with rfl|he
  cases Ak;exact a6 e he Ak Ku k ah
theorem PH{H ab:au}{r:R}{v:Value}(h:GH H r=some (v,ab)):ab=H/\∃bB,r=some (v,bB)/\bB.next=H.next:=by
 unfold GH at h
 grind[eq_of_beq_eq_true]
theorem al3(bI:iP P bo){o:Oper}{p:nD}{T:List Value}{H ab:au}{v:Value}(hf:H.dS<=H.next)(U:ua P bo o p T H=some (v,ab)):gJ H ab:=by grind[ua,PH,gJ.refl,EK]
theorem Av.jc(bI:iP P bo){all:List Oper}{e:gO}(he:Av P bo all e)(hf:e.H.dS<=e.H.next):gJ e.H e.ab:=by
 cases aM:e.w with
 | true=>exact al3 bI hf (he.mL aM)
 | false=>rw[(he.ld aM).2];exact gJ.refl _
theorem Kv(bI:iP P bo){all:List Oper}:∀ {aP:List gO} {T dA:List Value} {H ab:au},qQ T H aP dA ab->H.dS<=H.next->(∀e∈aP,Av P bo all e)->gJ H ab
 | [],_,_,_,_,c,_,_=>by obtain⟨_,rfl⟩:=c;exact gJ.refl _
 | e::r,T,dA,H,ab,c,hf,he=>by obtain⟨rfl,rfl,c⟩:=c;have m:=(he e (by simp)).jc bI hf;exact m.trans (Kv bI c (m.wf hf) fun k ah=>he k (by simp[ah]))
def CA(e:gO)(id:Nat):Prop:=e.ab.cX id≠e.H.cX id
theorem CA.lt{e:gO}{id:Nat}(m:gJ e.H e.ab)(aM:pc e.H)(h:CA e id):id<e.ab.next:=by by_cases aJ:e.H.cX id=none;exact(m.dd id aJ (fun h1=>h (h1.trans aJ.symm))).2;exact Nat.lt_of_lt_of_le (aM.lt id aJ) m.dO
theorem Kw(_hS:iP P bo){all:List Oper}{e:gO}(he:Av P bo all e)(Hc:e.p.l8=false->e.p.e0=ja P e.o.op)(hf:e.H.dS<=e.H.next)(_hwf:pc e.H){id:Nat}(h:CA e id):
  e.w=true/\((e.p.e0=4/\(id∈e.lj.lT\/(e.H.next<=id/\id<e.ab.next)))\/(e.p.e0=2/\e.H.next<=id/\id<e.ab.next)\/(e.p.e0=3/\e.lj.oJ id=false)):=by
 cases aM:e.w with
 | false=>exact absurd (by rw[(he.ld aM).2]) h
 | true=>
 refine⟨rfl,?_⟩;have ba:=he.mL aM;unfold ua at ba;split at ba
 ·exact absurd (by rw[(PH ba).1]) h
 rename_i al4;have ah:=Hc al4;have Aw:e.p.e0=3->e.lj.oJ id=false:=by
  intro y2;have:e.lj.oJ id=en e.H e.ab id:=by show(tY e.o e.p e.T e.H e.ab).oJ id=_;simp only[tY,y2]
  rw[this];cases al:en e.H e.ab id with
  | false=>rfl
  | true=>obtain⟨b,h1,h2⟩:=alh al;exact absurd (by simp_all[au.cX]) h
 have plain:∀(gq bB:au),gq.dS<=gq.next->(kP P e.o.op).f e.T gq=some (e.v,bB)->gq.cX=e.H.cX->gq.next=e.H.next->bB.cX=e.ab.cX->bB.next=e.ab.next->
   ((e.p.e0=4/\(id∈e.lj.lT\/(e.H.next<=id/\id<e.ab.next)))\/(e.p.e0=2/\e.H.next<=id/\id<e.ab.next)\/(e.p.e0=3/\e.lj.oJ id=false)):=by
  intro gq bB nI bM sy hn cg fo;have m:=Kd nI bM;have oP:bB.get id≠gq.get id:=by intro he;refine h ?_;rw[<- cg,<- sy];unfold au.cX;rw[he,m.cu]
  rcases alb bM with(⟨k,c⟩|⟨k,c⟩)|c
  ·left;have al5:e.p.e0=4:=ah.trans k;refine⟨al5,?_⟩;have:=c id oP;rw[hn,fo]at this;rcases this with aT|aT
   ·left;show id∈(tY e.o e.p e.T e.H e.ab).lT
    simp_all[tY]
   omega
  ·right;left;refine⟨ah.trans k,?_⟩;have:=c id oP
   simp_all
  simp_all
 have any:∀(gq bB:au),gq.dS<=gq.next->(iu P e.o.op).f bo e.T gq=some (e.v,bB)->gq.cX=e.H.cX->gq.next=e.H.next->bB.cX=e.ab.cX->bB.next=e.ab.next->
   ((e.p.e0=4/\(id∈e.lj.lT\/(e.H.next<=id/\id<e.ab.next)))\/(e.p.e0=2/\e.H.next<=id/\id<e.ab.next)\/(e.p.e0=3/\e.lj.oJ id=false)):=by
  intro gq bB nI bM sy hn cg fo;unfold iu at bM;split at bM
  case h_2=>cases bM
  case h_1=>
  unfold yL at bM;split at bM
  ·grind[ja]
  ·simp_all[ja]
  ·simp_all[ja]
  ·simp_all[ja]
  ·simp_all[ja]
  grind
 grind
end
end Go.Ab
namespace Go.Ab
open Go
variable[h7]
section
variable{P:Program}{bo:hQ}
structure jY (all:List Oper) (k j:gO):Prop where
 cZ:k.p.cZ<j.p.cZ
 PI:Xr k j
 lS:iD j.p.lS k.p.cZ=true\/B4 all k.o j.o=true
 ep:k.ab.next<=j.H.next
structure ui (P:Program) (bo:hQ) (all:List Oper) (gq pP:au) (e:gO):Prop where
 ok:Av P bo all e
 e0:e.p.l8=false->e.p.e0=ja P e.o.op
 l8:e.p.l8=true->ja P e.o.op=3
 jc:gJ e.H e.ab
 wf:pc e.H
 dc:e.H.dS<=e.H.next
 lS:Hb all e.p.cZ e.p.lS
 k4:all[e.p.cZ]?=some e.o
 al6:GF e.o e.p.cZ=true
 Hd:gJ gq e.H
 an:e.ab.next<=pP.next
theorem Xs(bI:iP P bo){all:List Oper}:∀ {aP:List gO} {T dA:List Value} {H ab:au},qQ T H aP dA ab->H.dS<=H.next->pc H->(∀e∈aP,Av P bo all e)->
  (∀e∈aP,gJ H e.H/\gJ e.H e.ab/\pc e.H/\e.H.dS<=e.H.next/\e.ab.next<=ab.next)/\aP.Pairwise (fun k j=>k.ab.next<=j.H.next)
 | [],_,_,_,_,_,_,_,_=>⟨by simp,.nil⟩
 | e::r,T,dA,H,ab,c,hf,aM,he=>by
  obtain⟨rfl,rfl,c⟩:=c;have m:=(he e (by simp)).jc bI hf;have U:∀k∈r,Av P bo all k:=fun k ah=>he k (by simp[ah])
  have dV:=Kv bI c (m.wf hf) U;obtain⟨i1,k2⟩:=Xs bI c (m.wf hf) (m.Ki aM) U;refine⟨fun k ah=>?_,pairwise_cons.2 ⟨fun j bm=>(i1 j bm).1.dO,k2⟩⟩;rcases mem_cons.1 ah with rfl|ah
  exact⟨gJ.refl _,m,aM,hf,dV.dO⟩;obtain⟨cU,cR,a3,a4,a5⟩:=i1 k ah;exact⟨m.trans cU,cR,a3,a4,a5⟩
theorem al7(l:List (Oper×Nat×Nat))(x:Oper×Nat×Nat):(B7 P l x).cZ=x.2.1/\(B7 P l x).lS=x.2.2/\(((B7 P l x).l8=false->(B7 P l x).e0=ja P x.1.op)/\((B7 P l x).l8=true->ja P x.1.op=3)):=by grind[B7,VV]
theorem Kx{all:List Oper}{aP:List gO}(hm:aP.map (fun e=>(e.o,e.p))=s6 P all){j:Nat}{e:gO}(he:aP[j]?=some e):
  all[j]?=some e.o/\e.p.cZ=j/\Hb all j e.p.lS/\((e.p.l8=false->e.p.e0=ja P e.o.op)/\(e.p.l8=true->ja P e.o.op=3))/\(B6 all)[j]?=some (e.o,j,e.p.lS):=by
 have h1:(s6 P all)[j]?=some (e.o,e.p):=by grind
 grind[s6,JD,Xp,al7]
theorem al8(bI:iP P bo){all:List Oper}{T:List Value}{H:au}{a1:el}(U:o4 P bo all T H=some a1)(hf:H.dS<=H.next)(aM:pc H):
  a1.c6=.normal/\∃aP:List gO,qQ T H aP a1.T a1.H/\aP.length=all.length/\(∀(j:Nat) (e:gO),aP[j]?=some e->e.p.cZ=j)/\(∀e∈aP,ui P bo all H a1.H e)/\aP.Pairwise (jY all)/\gJ H a1.H:=by
 unfold o4 at U;split at U
 case h_2=>cases U
 case h_1 Ky=>
 obtain⟨aJ,aP,h1,h2,h3,aG,_⟩:=Ks all _ _ _ _ _ U;obtain⟨dg,cr⟩:=Xs bI h1 hf aM h3;have PJ:=Ky;unfold Oy at PJ;rw[Bool.and_eq_true,kH,kH,all_eq_true,all_eq_true]at PJ;obtain⟨dx,bp⟩:=PJ;have hlen:aP.length=all.length:=by
  have:=congrArg List.length h2
  grind[s6,JD,Xo]
 refine⟨aJ,aP,h1,hlen,fun j e he=>(Kx h2 he).2.1,fun e he=>?_,?_,Kv bI h1 hf h3⟩
 ·obtain⟨j,bm⟩:=mem_iff_getElem?.1 he;obtain⟨cU,cR,a3,a4,a5⟩:=Kx h2 bm;obtain⟨b1,b2,gE,kJ,lX⟩:=dg e he;exact⟨h3 e he,a4.1,a4.2,b2,gE,kJ,by simp_all,by simp_all,by grind,b1,lX⟩
 ·rw[pairwise_iff_getElem]at aG cr⊢;intro i j an bm qM;have xJ:=List.getElem?_eq_getElem an;have Ce:=List.getElem?_eq_getElem bm;obtain⟨cU,cR,a3,a4,a5⟩:=Kx h2 xJ;obtain⟨b1,b2,gE,kJ,lX⟩:=Kx h2 Ce;refine⟨by omega,aG i j an bm qM,?_,cr i j an bm qM⟩;have q:=bp _ (mem_of_getElem? lX);rw[kH,all_eq_true]at q;have q:=q _ (mem_of_getElem? a5);simp only at q;have dw:Nat.blt i j=true:=by simp_all
  simp_all
variable{all:List Oper}{S:Nat->Bool}{gq pP:au}{j:gO}
theorem Xt(lF:Au all S)(jb:ui P bo all gq pP j)(U:∀e∈j.o.after.toList,Region.binds .any e=true->S e.on=true){k:gO}(ah:S k.p.cZ=false):iD j.p.lS k.p.cZ=false:=by
 cases ak:iD j.p.lS k.p.cZ with
 | false=>rfl
 | true=>
  obtain⟨o,h1,h2⟩:=jb.lS S lF _ ak;have h3:=jb.k4
  simp_all
theorem PK(lF:Au all S){k:gO}(ok:ui P bo all gq pP k)(ah:S k.p.cZ=true)(bm:S j.p.cZ=false):iD k.p.lS j.p.cZ=false:=by
 cases ak:iD k.p.lS j.p.cZ with
 | false=>rfl
 | true=>
  obtain⟨o,h1,h2⟩:=ok.lS S lF _ ak;have:=h2 (fun e he al9=>lF k.p.cZ o h1 ah e he al9)
  simp_all
theorem Xu{i:Nat}{l:List Nat}(h:s5 i l=false):i∉l:=by
 intro an;unfold s5 at h;rw[kH]at h;have h:(l.all fun j=>!(Nat.beq i j))=true:=by grind
 rw[all_eq_true]at h;have:=h i an;simp at this
theorem Xv{o:Oper}{l:List Nat}(h:JC o l=false):∀t∈l,o.dst≠some t:=by grind[JC,Xu]
theorem ama{x y:Oper}(h:Ox x y=false):∀t,x.dst=some t->y.dst≠some t:=by
 intro t h1 h2
 simp_all[Ox]
theorem Kz{l:List Nat}{fm an i:Nat}(h:Ae l fm an=true)(fu:i∈l):i<fm\/an<=i:=by
 unfold Ae at h;rw[kH,all_eq_true]at h
 simp_all
theorem Xw{l m:List Nat}{i:Nat}(h:oK l m=true)(h1:i∈l):i∉m:=by simp_all[oK,kH,Xu]
theorem amb(bI:iP P bo)(lF:Au all S)(jb:ui P bo all gq pP j)(U:∀e∈j.o.after.toList,Region.binds .any e=true->S e.on=true)(xV:j.w=true)
  {k:gO} (ok:ui P bo all gq pP k) (t:jY all k j) (ah:S k.p.cZ=false) {id:Nat} (fp:(j.p.e0=3)\/((j.p.e0=1\/j.p.e0=4)/\id∈j.lj.lT)):k.ab.cX id=k.H.cX id:=by
 apply Classical.byContradiction;intro h;obtain⟨He,ht⟩:=Kw bI ok.ok ok.e0 ok.dc ok.wf h;have ak:=Xt lF jb U ah;have aB:=t.PI He xV (by omega);rw[ak]at aB;have aB:tZ k.lj j.lj=true:=by simp_all
 have pO:k.lj.e0=k.p.e0:=rfl;have KA:j.lj.e0=j.p.e0:=rfl;have amc:k.lj.fm=k.H.next:=rfl;have amd:k.lj.an=k.ab.next:=rfl;unfold tZ at aB;rw[pO,KA,amc,amd]at aB;rcases ht with⟨h1,h2⟩|⟨h1,h2⟩|⟨h1,h2⟩<;>rcases fp with cg|⟨cg|cg,cd⟩<;>rw[h1,cg]at aB<;>simp only[Bool.and_eq_true]at aB<;>first|(cases aB;done)|skip
 ·rcases h2 with h2|h2
  ·grind[Xw]
  ·have:=Kz aB.2 cd;omega
 ·have:=Kz aB cd;omega
 ·have:=Kz aB cd;omega
 simp_all[kH]
theorem ame(bI:iP P bo)(lF:Au all S)(jb:ui P bo all gq pP j)(PL:S j.p.cZ=false)(xV:j.w=true)
  {k:gO} (ok:ui P bo all gq pP k) (t:jY all j k) (ah:S k.p.cZ=true) {id:Nat} (fp:(j.p.e0=3)\/((j.p.e0=1\/j.p.e0=4)/\id∈j.lj.lT)) (dw:id<j.H.next):k.ab.cX id=k.H.cX id:=by
 apply Classical.byContradiction;intro h;obtain⟨He,ht⟩:=Kw bI ok.ok ok.e0 ok.dc ok.wf h;have ak:=PK lF ok ah PL;have aB:=t.PI xV He (by omega);rw[ak]at aB;have aB:tZ j.lj k.lj=true:=by simp_all
 have pO:k.lj.e0=k.p.e0:=rfl;have KA:j.lj.e0=j.p.e0:=rfl;have fo:=jb.jc.dO;have fN:=t.ep
 grind[tZ,Xw,kH]
theorem amf(bI:iP P bo)(lF:Au all S)(jb:ui P bo all gq pP j)(PL:S j.p.cZ=false){k:gO}(ok:ui P bo all gq pP k)(t:jY all j k)(ah:S k.p.cZ=true)(id:Nat):
  j.ab.cX id=j.H.cX id\/k.ab.cX id=k.H.cX id:=by
 apply Classical.byContradiction;intro aU;obtain⟨Xx,er⟩:=not_or.1 aU;obtain⟨He,ht⟩:=Kw bI ok.ok ok.e0 ok.dc ok.wf er;obtain⟨Cx,bf⟩:=Kw bI jb.ok jb.e0 jb.dc jb.wf Xx;have dw:=CA.lt jb.jc jb.wf Xx;have ak:=PK lF ok ah PL;have aB:=t.PI Cx He (by omega);rw[ak]at aB;have aB:tZ j.lj k.lj=true:=by simp_all
 have pO:k.lj.e0=k.p.e0:=rfl;have KA:j.lj.e0=j.p.e0:=rfl;have amg:j.lj.fm=j.H.next:=rfl;have amh:j.lj.an=j.ab.next:=rfl;have fN:=t.ep;unfold tZ at aB;rw[pO,KA,amg,amh]at aB;rcases ht with⟨h1,h2⟩|⟨h1,h2⟩|⟨h1,h2⟩<;>rcases bf with⟨cg,cd⟩|⟨cg,cd⟩|⟨cg,cd⟩<;>rw[h1,cg]at aB<;>simp only at aB<;>first|(cases aB;done)|omega|skip
 rcases h2 with h2|h2
 ·have:=Kz aB h2;omega
 ·omega
end
end Go.Ab
namespace Go.Ab
open Go
variable[h7]
section
variable{P:Program}{bo:hQ}{B:Nat}
theorem jK.Xy{σ τ jB:c8}{h h1 h2:Nat->Option Obj}{n N fo fN:Nat}{w dT fb:World}(a:jK B σ h n w τ h1 N dT)(b:jK B τ h1 fo dT jB h2 fN fb)(aD:n<=fo)(hh:fN<=N):
  jK B σ h n w jB h2 N fb:=by
 refine⟨b.gb,a.dO,fun id fp=>?_,fun id x ao=>b.mono _ _ (a.mono _ _ ao),b.os.trans a.os,b.tape.trans a.tape,b.output.trans a.output,Nat.le_trans a.size b.size,
  fun c aB eU=>?_,fun c bM aB=>a.ub c (b.ub c bM (Nat.lt_of_lt_of_le aB a.size)) aB⟩
 have:=b.dO;rw[b.ext id (by omega),a.ext id (by omega)];rw[b.lE c (Nat.lt_of_lt_of_le aB a.size) (fun bM=>eU (a.ub c bM aB)),a.lE c aB eU]
theorem jK.ami{σ τ:c8}{h h1:Nat->Option Obj}{n fo N:Nat}{w dT:World}(a:jK B σ h n w τ h1 fo dT)(hh:fo<=N):jK B σ h n w τ h1 N dT:=
 ⟨a.gb,Nat.le_trans a.dO hh,fun id fp=>a.ext id (by omega),a.mono,a.os,a.tape,a.output,a.size,a.lE,a.ub⟩
theorem Xz{S:Nat->Bool}:∀ {aP:List gO} {T dA:List Value} {H ab:au},qQ T H aP dA ab->(∀e∈aP,S e.p.cZ=true)->jq S T aP=dA
 | [],_,_,_,_,c,_=>c.1
 | e::r,T,dA,H,ab,c,al=>by obtain⟨rfl,rfl,c⟩:=c;show jq S (if S e.p.cZ then _ else _) r=dA;rw[if_pos (al e (by simp))];exact Xz c fun k ah=>al k (by simp[ah])
theorem PM{S:Nat->Bool}(id:Nat):∀ {aP:List gO} {T dA:List Value} {H ab:au} {h:Nat->Option Obj},qQ T H aP dA ab->(∀e∈aP,S e.p.cZ=true)->
  ((∃e∈aP,CA e id)/\jd S h aP id=ab.cX id)\/(jd S h aP id=h id/\ab.cX id=H.cX id/\∀e∈aP,¬CA e id)
 | [],_,_,_,_,_,c,_=>by obtain⟨_,rfl⟩:=c;exact .inr ⟨rfl,rfl,by simp⟩
 | e::r,T,dA,H,ab,h,c,al=>by
  obtain⟨rfl,rfl,c⟩:=c;have hh:jd S h (e::r) id=jd S (fx h e.H e.ab) r id:=by simp_all[jd]
  rw[hh];rcases PM id (h:=fx h e.H e.ab) c fun k ah=>al k (by simp[ah])with⟨⟨k,ah,ht⟩,h1⟩|⟨h1,h2,h3⟩
  grind
  by_cases ht:CA e id;refine .inl ⟨⟨e,by simp,ht⟩,?_⟩;rw[h1,h2];unfold fx;rw[if_neg ht];refine .inr ⟨?_,?_,?_⟩;rw[h1];unfold fx;rw[if_pos (Classical.not_not.1 ht)];rw[h2];exact Classical.not_not.1 ht
  simp_all
theorem amj{all:List Oper}{S:Nat->Bool}{wR σ:c8}{aJ:Nat->Option Obj}{gq pP:au}{gx w:World}{aP:List gO}{T dA:List Value}(hS:hK P B wR aJ gq gx)(cW:gN wR gq.next pP.next)
  (c:qQ T gq aP dA pP) (bM:∀e∈aP,ui P bo all gq pP e) (m:gJ gq pP) (al:∀e∈aP,S e.p.cZ=true) (g:jK B wR aJ gq.next gx σ (jd S aJ aP) pP.next w):fW B wR aJ gq gx σ (jd S aJ aP) pP w:=by
 refine⟨g,fun id b ak=>?_,fun id b ak=>?_,m⟩;rcases PM id (h:=aJ) c al with⟨_,h1⟩|⟨h1,h2,_⟩
 simp_all
 rw[h1];exact hS.sub id b (h2▸ak);rcases PM id (h:=aJ) c al with⟨⟨e,he,ht⟩,h1⟩|⟨h1,h2,_⟩
 rw[h1];by_cases bt:pP.cX id=gq.cX id;unfold fx at ak;rw[if_pos bt]at ak;cases h3:gq.cX id with
 | some eh=>rw[bt,h3];have:=hS.sub id eh h3;simp_all
 | none=>
  exfalso;have o:=bM e he;have wH:gq.next<=id/\id<pP.next:=by by_cases aG:e.H.cX id=none;have a6:=o.jc.dd id aG (fun a6=>ht (a6.trans aG.symm));have:=o.Hd.dO;have:=o.an;omega;have a6:=o.Hd.dd id h3 aG;have:=o.jc.dO;have:=o.an;omega
  have eo:=cW id wH.1 wH.2;obtain⟨cc,O1,fy,cg⟩:=(hS.gb.ga id b ak).xT
  simp_all
 simp_all[fx]
 simp_all[fx]
theorem amk{T dA:List Value}{x:Operand}(h:∀t,x=.tmp t->cf T t=cf dA t):(ek x).g T=(ek x).g dA:=by
 cases x with
 | tmp t=>exact h t rfl
 | _=>rfl
theorem aml{all:List Oper}{o:Oper}{T dA:List Value}(h:∀t∈looks all o,cf T t=cf dA t):(iT all o.guard).f T=(iT all o.guard).f dA:=by
 unfold iT
 grind[looks,jm,wB]
theorem amm{bD:Array Oper}{listed:Array Bool}(fc:listed.size=bD.size)(he:∀(i:Nat) (o:Oper),bD[i]?=some o->GF o i=true)(U:Region.ready .any bD listed=[]):
  ∀i,i<bD.size->listed.getD i false=true:=by
 intro i;induction i using Nat.strongRecOn with
 | ind i bg=>
  intro an;apply Classical.byContradiction;intro aU;have bM:bD[i]?=some bD[i]:=Array.getElem?_eq_getElem an;have Kt:i∈Region.ready .any bD listed:=by
   rw[mem_ready];refine⟨?_,bD[i],bM,fun e aE7 ak=>?_⟩
   simp_all
   have:=he i _ bM;unfold GF at this;rw[kH,all_eq_true]at this;have:=this e (by simp_all);rw[ak]at this;simp only at this;have dw:e.on<i:=by simp_all
   grind
  simp_all
theorem amn(H:au)(id:Nat):(l8 H).cX id=none:=by rfl
theorem amo(dW:cz P)(bI:iP P bo)(bD:Array Oper)(r:Option Nat){wR:c8}{aJ:Nat->Option Obj}{mh:List Value}{gq:au}{gx:World}{a0:Act}{a1:el}{Q:Exit->Act->World->Prop}(hS:hK P B wR aJ gq gx)
  (cW:gN wR gq.next a1.H.next) {aP:List gO} (aB:qQ mh gq aP a1.T a1.H) (hlen:aP.length=bD.size) (EO:∀(j:Nat) (e:gO),aP[j]?=some e->e.p.cZ=j) (rJ:∀e∈aP,ui P bo bD.toList gq a1.H e) (PN:aP.Pairwise (jY bD.toList)) (EP:gJ gq a1.H)
  (bY:∀ τ aT cH aW,bL τ a1.T cH.tmps.toList->cH.defers=a0.defers->fW B wR aJ gq gx τ aT a1.H aW->Q .normal cH aW):
  ∀(mM:Nat) (listed:Array Bool) (a:Act) (w:World) (σ:c8),listed.size=bD.size->listed.toList.count false<=mM->Au bD.toList (fun i=>listed.getD i false)->bL σ (jq (fun i=>listed.getD i false) mh aP) a.tmps.toList->a.defers=a0.defers->
   jK B wR aJ gq.next gx σ (jd (fun i=>listed.getD i false) aJ aP) a1.H.next w->(∀e∈aP,listed.getD e.p.cZ false=false->gN σ e.H.next e.ab.next)->wpAnyIn (ew r) 0 P .any bD Q mM listed a w:=by
 have amp:∀(i:Nat) (o:Oper),bD[i]?=some o->GF o i=true:=by
  intro i o bM;have an:i<aP.length:=by grind
  have xJ:=List.getElem?_eq_getElem an;have on:=rJ _ (mem_of_getElem? xJ);have h1:=on.k4;have h2:=on.al6
  grind
 have dy:∀(listed:Array Bool) (a:Act) (w:World) (σ:c8),listed.size=bD.size->bL σ (jq (fun i=>listed.getD i false) mh aP) a.tmps.toList->a.defers=a0.defers->
   jK B wR aJ gq.next gx σ (jd (fun i=>listed.getD i false) aJ aP) a1.H.next w->Region.ready .any bD listed=[]->Q .normal a w:=by
  intro listed a w σ fc bk aO hg U;have hall:=amm fc amp U;have al:∀e∈aP,(fun i=>listed.getD i false) e.p.cZ=true:=by grind[mem_iff_getElem?]
  rw[Xz aB al]at bk;exact bY σ _ a w bk aO (amj hS cW aB rJ EP al hg)
 intro mM;induction mM with
 | zero=>
  intro listed a w σ fc Ax lF bk aO hg CB;have U:Region.ready .any bD listed=[]:=by
   cases U:Region.ready .any bD listed with
   | nil=>rfl
   | cons i _=>
    exfalso;have an:i∈Region.ready .any bD listed:=by grind
    obtain⟨h1,_⟩:=mem_ready.1 an;have:false∈listed.toList:=by
     by_cases dw:i<listed.size;simp only[Array.getD_eq_getD_getElem?,Array.getElem?_eq_getElem dw,Option.getD_some]at h1
     grind
     simp_all
    grind
  exact⟨U,dy listed a w σ fc bk aO hg U⟩
 | succ mM bg=>
  intro listed a w σ fc Ax lF bk aO hg CB;refine⟨dy listed a w σ fc bk aO hg,fun i an=>?_⟩;obtain⟨aE8,o,bM,amq⟩:=mem_ready.1 an;have aE9:i<bD.size:=(Array.getElem?_eq_some_iff.1 bM).1;have tf:i<listed.size:=by omega
  have PO:i<aP.length:=by omega
  have XA:listed.getD i false=false:=by grind
  obtain⟨j,bm⟩:∃j,aP[i]?=some j:=⟨_,List.getElem?_eq_getElem PO⟩;have PQ:=mem_of_getElem? bm;have JZ:=EO i j bm;have jb:=rJ j PQ;have amr:j.o=o:=by
   have h1:=jb.k4
   grind
  subst amr
  let S:Nat->Bool:=fun i=>listed.getD i false
  let CC:=listed.setIfInBounds i true
  let h8:Nat->Bool:=fun i=>CC.getD i false
  have ER:S j.p.cZ=false:=by grind
  have XB:h8 j.p.cZ=true:=by show(listed.setIfInBounds i true).getD j.p.cZ false=true;rw[JZ];simp[Array.getD_eq_getD_getElem?,tf]
  have PR:∀m,m≠i->h8 m=S m:=fun m hm=>getD_set_ne false (Ne.symm hm)
  obtain⟨pre,post,qP⟩:=append_of_mem PQ;have uj:=PN;rw[qP]at uj;obtain⟨_,PS,xW⟩:=pairwise_append.1 uj;have Hf:∀k∈post,jY bD.toList j k:=(pairwise_cons.1 PS).1;have KB:∀k∈pre,jY bD.toList k j:=fun k ah=>xW k ah j (by simp)
  have ams:∀k∈pre,ui P bo bD.toList gq a1.H k:=fun k ah=>rJ k (by grind)
  have XC:∀k∈post,ui P bo bD.toList gq a1.H k:=fun k ah=>rJ k (by grind)
  have XD:∀e∈j.o.after.toList,Region.binds .any e=true->S e.on=true:=fun e he ak=>amq e (by grind) ak
  have amt:∀k∈pre,S k.p.cZ=false->B4 bD.toList k.o j.o=true:=fun k ah tg=>by
   have:=(KB k ah).lS;rw[Xt lF jb XD tg]at this
   grind
  have XE:∀k∈post,S k.p.cZ=true->B4 bD.toList j.o k.o=true:=fun k ah tg=>by
   have:=(Hf k ah).lS
   grind[PK]
  have XF:∀t∈looks bD.toList j.o,cf (jq S mh aP) t=cf j.T t:=by
   intro t ht;rw[qP];have gX:=aB;rw[qP]at gX;refine alW gX ER (fun k ah tg=>?_) (fun k ah tg=>?_);have:=amt k ah tg;unfold B4 at this;simp only[Bool.and_eq_true,Bool.not_eq_true']at this
   grind[Xv]
   have:=XE k ah tg;unfold B4 at this;simp only[Bool.and_eq_true,Bool.not_eq_true']at this
   grind[Xv]
  have rO:∀x∈j.o.op.operands.toList,(ek x).g (jq S mh aP)=(ek x).g j.T:=fun x ao=>amk fun t e=>XF t (by subst e;unfold looks;rw[jm];exact mem_append_left _ (mem_filterMap.2 ⟨.tmp t,ao,rfl⟩))
  have PG:(iT bD.toList j.o.guard).f (jq S mh aP)=j.w:=by rw[aml XF,jb.ok.w]
  have aM:=WR bk (bD:=bD) j.o;have aM:Region.wanted j.o (yielded bD a.tmps)=j.w:=aM.trans PG;have PT:Au bD.toList h8:=by
   intro m amu amv hm e he ak;by_cases hmi:m=i
   grind
   rw[PR _ hmi]at hm;have:=lF m amu amv hm e he ak
   grind
  have yS:∀k∈pre++post,h8 k.p.cZ=S k.p.cZ:=by
   intro k ah;refine PR _ ?_;rcases mem_append.1 ah with ah|ah
   have:=(KB k ah).cZ;omega;have:=(Hf k ah).cZ;omega
  have aFa:jq h8 mh aP=iO (jq S mh aP) j.o.dst j.v:=by
   rw[qP];refine alX ER XB yS fun k ah tg x ao=>?_
   have:=XE k ah tg;unfold B4 at this;simp only[Bool.and_eq_true,Bool.not_eq_true']at this
   grind[ama]
  have amw:jd h8 aJ aP=fx (jd S aJ aP) j.H j.ab:=by rw[qP];exact alV ER XB yS fun k ah tg id=>amf bI lF jb ER (XC k ah) (Hf k ah) tg id
  have PU:CC.toList.count false<=mM:=by
   have h1:CC.toList=listed.toList.set i true:=by grind
   have h2:listed.toList[i]'(by omega)=false:=by
    have:listed[i]=false:=by simp only[Array.getD_eq_getD_getElem?,Array.getElem?_eq_getElem tf,Option.getD_some]at XA;exact XA
    grind
   grind
  have PV:∀(τ:c8),(∀id,id<j.H.next\/j.ab.next<=id->τ id=σ id)->∀e∈aP,h8 e.p.cZ=false->gN τ e.H.next e.ab.next:=by
   intro τ ma e he Px x qg uf;have dC:e.p.cZ≠i:=fun h=>by grind
   rw[PR _ dC]at Px;rw[qP]at he;have amx:x<j.H.next\/j.ab.next<=x:=by
    rcases mem_append.1 he with h|h
    have:=(KB e h).ep;omega;rcases mem_cons.1 h with rfl|h
    omega;have:=(Hf e h).ep;omega
   rw[ma x amx];exact CB e (by grind) Px x qg uf
  unfold wpOpIn;rw[bM];simp only;cases xV:j.w with
  | false=>
   rw[xV]at aM;rw[if_neg (by grind)];refine⟨fun _ _=>trivial,?_⟩;obtain⟨hv,uk⟩:=jb.ok.ld xV;obtain⟨dx,bp⟩:=xU bk j.o.dst (cq.undef (σ:=σ));refine bg CC _ w σ (by grind) PU PT ?_ (bp.trans aO) ?_ (PV σ fun _ _=>rfl)
   grind
   grind[EG]
  | true=>
   rw[xV]at aM;rw[if_pos aM];have jX:∀id,((j.p.e0=3)\/((j.p.e0=1\/j.p.e0=4)/\id∈j.lj.lT))->∀b,j.H.cX id=some b->jd S aJ aP id=some b:=by intro id fp b ak;have dw:id<j.H.next:=jb.wf.lt id (by grind);rw[qP];have gX:=aB;rw[qP]at gX;refine alU gX ER (fun k ah tg=>?_) (fun k ah tg=>?_) (hS.sub id) b ak;exact amb bI lF jb XD xV (ams k ah) (KB k ah) tg fp;exact ame bI lF jb ER xV (XC k ah) (Hf k ah) tg fp dw
   have b6:B<=w.heap.size:=Nat.le_trans hS.b6 hg.size;have eP:As P σ:=fun g XG=>by obtain⟨z,dU⟩:=hS.Pq g XG;exact⟨z,hg.mono _ _ dU⟩
   have aFb:gN σ j.H.next j.ab.next:=CB j PQ (by omega);have ba:=jb.ok.mL xV;unfold ua at ba;cases hbj:j.p.l8 with
   | false=>
    rw[hbj]at ba;have KC:∀(G CD:au),(iu P j.o.op).f bo j.T G=some (j.v,CD)->G.cX=j.H.cX->G.next=j.H.next->CD.cX=j.ab.cX->CD.next=j.ab.next->G.dS<=G.next->pc G->
      Oper.wpIn (ew r) 0 P j.o a w (wpAnyIn (ew r) 0 P .any bD Q mM CC) Q:=by
     intro G CD ev cg fo cd fN nI Hg;have Hh:(iu P j.o.op).f bo (jq S mh aP) G=some (j.v,CD):=by rw[Xq rO];exact ev
     refine Py dW bI j.o (h:=jd S aJ aP) (H:=G) (ab:=CD) (T:=jq S mh aP) hg.gb b6 eP ?_ Hg nI ?_ (by grind) bk Hh ?_;intro ah x ao id fp b ak;have XH:j.p.e0=1\/j.p.e0=4:=by rw[jb.e0 hbj];exact ah
     refine jX id (.inr ⟨XH,?_⟩) b (by rw[<- cg];exact ak);rw[rO x ao]at fp;show id∈(tY j.o j.p j.T j.H j.ab).lT;have Kt:id∈cm (kO j.o.op.operands.toList j.T):=G2 (by rw[EC];grind) id fp;rcases XH with h|h<;>simp only[tY,h]<;>exact Kt
     intro ah;refine⟨hg.gb,fun id b ak=>?_,b6,eP,Hg,nI,hg.base hS.gb hS.b6 hS.base,hS.fm⟩;exact jX id (.inl (by rw[jb.e0 hbj];exact ah)) b (by rw[<- cg];exact ak);intro aQ τ aW hv g;rw[fo,fN]at g;have bf:fx (jd S aJ aP) G CD=fx (jd S aJ aP) j.H j.ab:=by funext id;unfold fx;rw[cg,cd]
     rw[bf]at g;have CE:=hg.Xy g jb.Hd.dO jb.an;obtain⟨dx,bp⟩:=xU (bk.mono g.mono) j.o.dst hv;refine bg CC _ aW τ (by grind) PU PT ?_ (bp.trans aO) ?_ (PV τ g.ext)
     grind
     grind
    exact KC _ _ ba rfl rfl rfl rfl jb.dc jb.wf
   | true=>
    rw[hbj]at ba;obtain⟨uk,bB,ev,ss⟩:=PH ba;have yR:∀id,(l8 j.H).cX id=none:=fun id=>amn j.H id
    have EP:=EK bI (show(l8 j.H).dS<=(l8 j.H).next from jb.dc) ev;have G6:∀id,bB.cX id=none:=fun id=>Classical.byContradiction fun h=>by
     have:=EP.dd id (yR id) h
     grind[l8]
    have Hh:(iu P j.o.op).f bo (jq S mh aP) (l8 j.H)=some (j.v,bB):=by rw[Xq rO];exact ev
    have h3:=jb.l8 hbj;have Hg:pc (l8 j.H):=⟨fun i h=>absurd (yR i) h,fun i h=>absurd rfl h⟩;refine Py dW bI j.o (h:=jd S aJ aP) (H:=l8 j.H) (ab:=bB) (T:=jq S mh aP) hg.gb b6 eP ?_ Hg jb.dc ?_ ?_ bk Hh ?_;omega;intro _;exact⟨hg.gb,fun id b ak=>(by grind),b6,eP,Hg,jb.dc,hg.base hS.gb hS.b6 hS.base,hS.fm⟩;rw[ss];intro x qg uf;exact absurd (Nat.lt_of_lt_of_le uf qg) (Nat.lt_irrefl _);intro aQ τ aW hv g;have bf:fx (jd S aJ aP) (l8 j.H) bB=jd S aJ aP:=by
     funext id
     unfold fx
     grind
    rw[bf,ss]at g;have CE:=hg.Xy g jb.Hd.dO (Nat.le_trans (Nat.le_of_eq (by rw[uk])) jb.an);obtain⟨dx,bp⟩:=xU (bk.mono g.mono) j.o.dst hv;refine bg CC _ aW τ (by grind) PU PT ?_ (bp.trans aO) ?_ (PV τ fun id fp=>g.ext id (by rw[uk]at fp;exact fp))
    grind
    show jK B wR aJ gq.next gx τ (jd h8 aJ aP) a1.H.next aW;rw[amw,uk,EG];exact CE
theorem XI(dW:cz P)(bI:iP P bo)(bD:Array Oper)(KD:Nat)(r:Option Nat){σ:c8}{h:Nat->Option Obj}{T:List Value}{H:au}{w:World}{a:Act}{a1:el}(k:hK P B σ h H w)(cW:gN σ H.next a1.H.next)(bk:bL σ T a.tmps.toList)
  (U:o4 P bo bD.toList T H=some a1) {Q:Exit->Act->World->Prop} (bY:a1.c6=.normal->∀ τ aT cH aW,bL τ a1.T cH.tmps.toList->cH.defers=a.defers->fW B σ h H w τ aT a1.H aW->Q .normal cH aW):(Code.region KD bD true).wpIn (ew r) 0 P Q a w:=by
 obtain⟨ao,aP,aB,hlen,EO,rJ,PN,EP⟩:=al8 bI U k.dc k.wf;refine wpIn_region_any dW.mixed ?_;have amy:∀i,(Array.replicate bD.size false).getD i false=false:=fun i=>by rw[Array.getD_eq_getD_getElem?,Array.getElem?_replicate];grind
 have aFc:∀(l:List gO) (T:List Value),jq (fun i=>(Array.replicate bD.size false).getD i false) T l=T:=by
  intro l;induction l with
  | nil=>intro T;rfl
  | cons e l bg=>grind[jq]
 have aFd:∀(l:List gO) (g:Nat->Option Obj),jd (fun i=>(Array.replicate bD.size false).getD i false) g l=g:=by
  intro l;induction l with
  | nil=>intro T;rfl
  | cons e l bg=>grind[jd]
 have sy:jK B σ h H.next w σ h a1.H.next {w with drawn:=w.drawn+1}:=(jK.aln k.gb _).ami EP.dO;refine amo dW bI bD r (a0:=a) k cW aB (by omega) EO rJ PN EP ?_ bD.size _ a _ σ (by simp) ?_ ?_ ?_ rfl ?_ ?_
 grind
 simp_all
 intro i o _ an
 simp_all
 simp_all
 simp_all
 intro e he _ i h1 h2;have o:=rJ e he;exact cW i (Nat.le_trans o.Hd.dO h1) (Nat.lt_of_lt_of_le h2 o.an)
theorem amz(dW:cz P)(bI:iP P bo)(bD:Array Oper)(KD:Nat)(r:Option Nat){σ:c8}{h:Nat->Option Obj}{T:List Value}{H:au}{w:World}{a:Act}{a1:el}(k:hK P B σ h H w)(cW:gN σ H.next a1.H.next)(bk:bL σ T a.tmps.toList)
  (U:o4 P bo bD.toList T H=some a1):(Code.region KD bD true).wpIn (ew r) 0 P (ug B σ h H w a.defers a1) a w:=
 XI dW bI bD KD r k cW bk U fun ao τ aT cH aW bP q2 cS=>⟨by rw[ao];rfl,[],τ,aT,q2,⟨by simp,.nil⟩,bP,cS⟩
end
end Go.Ab
namespace Go.Ab
open Go
variable[h7]
section
variable{P:Program}{B:Nat}{σ:c8}{h:Nat->Option Obj}{H ab:au}{w:World}
theorem hK.KE(k:hK P B σ h H w){l:Nat}{r:hP}(aD:eZ H.ed l=some r)(hm:nA r=false):h l=some (.loop r)/\∃c o s L,σ l=some (c,o,s)/\B<=c/\w.heap[c]?=some (.loop L)/\Ke σ r L:=by
 have hg:H.get l=none:=k.wf.td l (by grind);have hO:H.cX l=some (.loop r):=by simp_all[au.cX]
 have hh:=k.sub l _ hO;obtain⟨c,o,s,dj,h1,h2,h3⟩:=k.gb.ga l _ hh;obtain⟨bV,dK,cl,aG,a6⟩:=k.gb.own l _ hh rfl
 simp_all[vr]
theorem sx.put{id c:Nat}{b:Obj}{L:Go.Obj}{o s:Nat}(fp:sx σ w id b)(eo:σ id=some (c,o,s)){l:Nat}(dC:c≠l):sx σ (w.putObj l L) id b:=by
 have e:(w.putObj l L).heap[c]?=w.heap[c]?:=World.putObj_heap_other dC;cases b with
 | cells b=>obtain⟨bV,dK,cl,dD,de,eC,h1,h2,h3,aG,a6,bq⟩:=fp;rw[eo]at h1;cases h1;exact⟨c,o,s,dD,de,eC,eo,by simp_all,h3,aG,a6,bq⟩
 | loop r=>obtain⟨bV,dK,cl,cL,h1,h2,h3⟩:=fp;rw[eo]at h1;cases h1;exact⟨c,o,s,cL,eo,by simp_all,h3⟩
 | n8=>obtain⟨bV,dK,cl,h1,h2⟩:=fp;rw[eo]at h1;cases h1;exact⟨c,o,s,eo,by simp_all⟩
theorem XJ(k:hK P B σ h H w){l:Nat}{r:hP}(aD:eZ H.ed l=some r)(hm:nA r=false)(nI:H.dS<=l){ES:List (Nat×hP)}(cY:Option hP)(h1:eZ ES l=cY)(h2:∀j,j≠l->eZ ES j=eZ H.ed j)
  {c o s:Nat} (eo:σ l=some (c,o,s)) (dj:Go.Obj) (hO:∀dY,cY=some dY->nA dY=false/\∃L,dj=.loop L/\Ke σ dY L):
  fW B σ h H w σ (fun id=>if id=l then cY.map .loop else h id) ⟨H.t,H.next,H.dS,ES⟩ (w.putObj c dj):=by
 have hg:H.get l=none:=k.wf.td l (by grind);obtain⟨hh,bV,dK,cl,L,bP,q2,cS,eI⟩:=k.KE aD hm;rw[eo]at bP;cases bP;have aB:c<w.heap.size:=(Array.getElem?_eq_some_iff.1 cS).1;have y1:∀id,au.cX ⟨H.t,H.next,H.dS,ES⟩ id=if id=l then cY.map .loop else H.cX id:=by
  intro id;show(match H.get id with|some b=>some (Obj.cells b)|none=>(eZ ES id).map .loop)=_;by_cases an:id=l
  simp_all
  rw[if_neg an,h2 id an];rfl
 have dw:l<H.next:=k.wf.lt l (by simp_all[au.cX]);have G7:∀id b bV dK cl,id≠l->h id=some b->σ id=some (bV,dK,cl)->bV≠c:=fun id b bV dK cl dC ak gX e=>by subst e;exact k.gb.lU l id _ b (Ne.symm dC) hh ak rfl _ _ _ _ _ _ eo gX rfl
 have gb:lW σ B (fun id=>if id=l then cY.map .loop else h id) (w.putObj c dj):=by
  refine⟨fun id b ak=>?_,fun id b ak aM=>?_,fun i j iU gI dC an bm aM=>?_⟩;by_cases an:id=l;subst an;simp only[if_true]at ak;cases cY with
  | none=>cases ak
  | some dY=>
   cases ak;obtain⟨OQ,cL,rfl,aFe⟩:=hO dY rfl;refine⟨c,o,s,_,eo,World.putObj_heap_same aB,?_⟩
   simp_all[vr]
  simp only[an,if_false]at ak;have At:=k.gb.ga id b ak;obtain⟨dg,b3,dt,a7⟩:=At.xT;exact At.put a7 (G7 id b _ _ _ an ak a7);by_cases an:id=l
  simp_all
  simp only[an,if_false]at ak;exact k.gb.own id b ak aM;intro alB bH alC alD jb Kf Pt G5;by_cases tf:i=l
  grind
  simp only[tf,if_false]at an;by_cases rL:j=l
  grind
  simp only[rL,if_false]at bm;exact k.gb.lU i j iU gI dC an bm aM _ _ _ _ _ _ Pt G5
 have Pu:∀x,Cu σ (fun id=>if id=l then cY.map .loop else h id) x->Cu σ h x:=by rintro x ⟨id,b,b3,dt,ak,aM,ao⟩;by_cases an:id=l;subst an;exact⟨id,_,b3,dt,hh,rfl,ao⟩;simp only[an,if_false]at ak;exact⟨id,b,b3,dt,ak,aM,ao⟩
 refine⟨⟨gb,Nat.le_refl _,fun _ _=>rfl,fun _ _ h=>h,rfl,rfl,rfl,Nat.le_of_eq World.putObj_size.symm,fun x ao eU=>?_,fun x ao _=>Pu x ao⟩,fun id b ak=>?_,fun id b ak=>?_,⟨Nat.le_refl _,rfl,fun i an=>?_,fun i an fu=>?_,fun wf=>⟨fun i an=>?_,fun i an=>?_⟩⟩⟩;refine World.putObj_heap_other ?_;rintro rfl;exact eU ⟨l,_,o,s,hh,rfl,eo⟩;rw[y1]at ak;by_cases an:id=l
 simp_all
 simp only[an,if_false]at ak⊢;exact k.sub id b ak;unfold fx at ak;rw[y1]at ak;by_cases an:id=l;subst an;simp only[if_true]at ak⊢;have eX:H.cX id=some (.loop r):=by simp_all[au.cX]
 grind
 simp_all
 grind
 simp_all[au.cX]
 rw[y1]at an;by_cases he:i=l
 simp_all
 rw[if_neg he]at an;exact wf.lt i an;show H.get i=none;by_cases he:i=l
 simp_all
 refine wf.td i ?_
 simp_all
theorem KF{l:Nat}{st:wh}(U:wz l st H=some ab):H.dS<=l/\∃r,eZ H.ed l=some r/\(nA r=false/\nA ⟨r.T,r.bw,r.c9,r.body,st⟩=false)/\ab=⟨H.t,H.next,H.dS,l7 H.ed l ⟨r.T,r.bw,r.c9,r.body,st⟩⟩:=by
 unfold wz at U;split at U;rename_i ak;split at U;rename_i r aD;split at U;cases U
 simp_all
 grind
 grind
theorem XK{l:Nat}{r v:hP}(aD:eZ H.ed l=some r):eZ (l7 H.ed l v) l=some v:=Kl _ _ _ (by grind)
theorem XL(k:hK P B σ h H w){l:Nat}{st:wh}(U:wz l st H=some ab){c o s:Nat}(eo:σ l=some (c,o,s)):
  ∃r L,eZ H.ed l=some r/\w.heap[c]?=some (.loop L)/\Ke σ r L/\∀Ay cI,Pp st Ay cI->∃aT,fW B σ h H w σ aT ab (w.putObj c (.loop {L with state:=Ay,pending:=cI})):=by
 obtain⟨nI,r,aD,hm,rfl⟩:=KF U;obtain⟨hh,bV,dK,cl,L,bP,q2,cS,eI⟩:=k.KE aD hm.1;rw[eo]at bP;cases bP;refine⟨r,L,aD,cS,eI,fun Ay cI ev=>⟨_,XJ k aD hm.1 nI (some ⟨r.T,r.bw,r.c9,r.body,st⟩) (XK aD) (fun j bm=>y0 _ _ _ _ bm) eo _ ?_⟩⟩;rintro dY aT;cases aT;exact⟨hm.2,_,rfl,eI.T,eI.bw,eI.c9,eI.body,ev⟩
theorem KG{l:Nat}{st:wh}(U:wz l st H=some ab):gJ H ab:=by
 obtain⟨nI,r,aD,hm,rfl⟩:=KF U;have y1:∀id,au.cX ⟨H.t,H.next,H.dS,l7 H.ed l ⟨r.T,r.bw,r.c9,r.body,st⟩⟩ id=none↔H.cX id=none:=by
  intro id;rw[te,te];show H.get id=none/\eZ (l7 H.ed l _) id=none↔_
  grind[XK,y0]
 refine⟨Nat.le_refl _,rfl,fun i an=>?_,fun i an fu=>absurd ((y1 i).2 an) fu,fun wf=>⟨fun i an=>wf.lt i (fun e=>an ((y1 i).2 e)),fun i an=>?_⟩⟩;show(match H.get i with|some b=>some (Obj.cells b)|none=>(eZ (l7 H.ed l _) i).map .loop)=_;rw[y0 _ _ _ _ (by omega)];rfl;show H.get i=none;refine wf.td i ?_
 grind[y0]
end
end Go.Ab
namespace Go.Ab
open Go
variable[h7]
section
variable{P:Program}{bo:hQ}{B:Nat}
theorem Az:∀(n:Nat) (v:Value),gv n [v]=List.replicate n v
 | 0,_=>rfl
 | n+1,v=>by show iC [v] (gv n [v])=_;rw[jm,Az n v,replicate_succ];rfl
theorem XM{F:Fence}{c:Code}{Q XN:Exit->Act->World->Prop}(bY:∀e a w,Q e a w->XN e a w):∀(n:Nat) (a:Act) (w:World),Code.roundsIn F 0 P c Q n a w->Code.roundsIn F 0 P c XN n a w
 | 0,_,_,h=>h
 | n+1,a,w,h=>wpIn_mono h fun e cH aW he=>by cases e<;>first|exact XM bY n cH aW he|exact bY _ _ _ he
theorem KH{σ:c8}{T:List Value}{a:Act}(bk:bL σ T a.tmps.toList){c:Operand}{t:Bool}(h:(ek c).g T=.bool t):a.eval c=.bool t:=by
 cases c with
 | tmp i=>
  have h1:cf T i=.bool t:=h;rw[pI]at h1;have h2:=bk.getD i;rw[h1]at h2;show a.tmps.getD i undef=.bool t;have h3:a.tmps.toList.getD i undef=a.tmps.getD i undef:=by simp_all
  rw[<- h3];generalize a.tmps.toList.getD i undef=x at h2;cases h2;rfl
 | const v=>exact h
 | global g=>cases h
 | func f=>cases h
theorem th{o:Option el}{k:List Value->au->Option el}{a1:el}(h:nE o k=some a1):∃b3,o=some b3/\((b3.c6=.normal/\k b3.T b3.H=some a1)\/(b3.c6≠.normal/\a1=b3)):=by
 unfold nE at h
 grind
theorem PW{id:Nat}{o:Option el}{a1:el}(h:B9 id o=some a1):∃b3,o=some b3/\a1.T=b3.T/\a1.H=b3.H/\((b3.c6=.exit id/\a1.c6=.normal)\/(b3.c6≠.exit id/\a1.c6=b3.c6)):=by
 unfold B9 at h;cases o with
 | none=>cases h
 | some b3=>
  refine⟨b3,rfl,?_⟩;obtain⟨e,T,H⟩:=b3;cases e with
  | normal=>grind
  | ret=>grind
  | exit ve=>
   simp only at h;split at h
   grind[eq_of_beq_eq_true]
   rename_i he;cases h;simp_all
theorem XO{o:Option el}{k:List Value->au->Option el}{a1:el}(h:GI o k=some a1):∃b3,o=some b3/\b3.c6=.normal/\k b3.T b3.H=some a1:=by
 unfold GI at h
 grind
theorem XP{g:Value}{bw:List Tmp}{c9 body:Code}{T:List Value}{H:au}{a1:el}(U:wy bo g bw c9 body T H=some a1):
  ∃f args c6 v bB x ef,vb g [wx (Nat.succ H.next)]=some (.fn f args)/\bo (.call f args (laid T bw c9 body H))=some ⟨c6,[v],bB⟩/\bB.ed=(Nat.succ H.next,x)::ef/\bB.dS<=Nat.succ H.next/\eZ ef (Nat.succ H.next)=none/\
   a1=⟨(match x.st with|.over e=>e|_=>.normal),T,⟨bB.t,bB.next,bB.dS,ef⟩⟩/\x.st≠.busy/\nA x=false:=by
 unfold wy at U;split at U
 case h_2=>cases U
 case h_1 t ht=>
 split at U
 case h_2=>cases U
 case h_1 f args=>
 split at U
 case h_2=>cases U
 case h_1 c6 ft bB aFf=>
 split at U
 case h_2=>cases U
 case h_1 v=>
 unfold OC at U;split at U
 case h_1=>cases U
 case h_2 x ef aFg=>
 split at U
 case h_2=>cases U
 case h_1 ak=>
 rw[Bool.and_eq_true]at ak;have qg:x.1=Nat.succ H.next:=eq_of_beq_eq_true ak.1;have nI:bB.dS<=Nat.succ H.next:=by simp_all
 grind
theorem PX{T:List Value}{bw:List Tmp}{c9 body:Code}{H:au}(i:Nat):
  (laid T bw c9 body H).cX i=if i=Nat.succ H.next then some (.loop ⟨T,bw,c9,body,.ready⟩)else if i=H.next then(eZ H.ed i).map .loop else H.cX i:=by
 have g:(laid T bw c9 body H).get i=if i=Nat.succ H.next then none else if i=H.next then none else H.get i:=by
  show((H.t.set H.next none).set (Nat.succ H.next) none).get i=_;by_cases h1:i=Nat.succ H.next
  simp_all[Tr.Ai]
  rw[if_neg h1,Tr.l9 _ _ _ _ h1];by_cases h2:i=H.next
  simp_all[Tr.Ai]
  rw[if_neg h2,Tr.l9 _ _ _ _ h2];rfl
 have l:eZ (laid T bw c9 body H).ed i=if Nat.succ H.next=i then some ⟨T,bw,c9,body,.ready⟩else eZ H.ed i:=qN _ _ _
 unfold au.cX
 grind
theorem KI{T:List Value}{bw:List Tmp}{c9 body:Code}{H:au}(wf:pc H)(i:Nat):
  (laid T bw c9 body H).cX i=if i=Nat.succ H.next then some (.loop ⟨T,bw,c9,body,.ready⟩)else if i=H.next then none else H.cX i:=by
 rw[PX];by_cases h1:i=Nat.succ H.next
 simp_all
 rw[if_neg h1,if_neg h1];by_cases h2:i=H.next;rw[if_pos h2,if_pos h2];have aJ:H.cX i=none:=Classical.byContradiction fun h=>absurd (wf.lt i h) (by omega)
 simp_all[te]
 simp_all
theorem PY{T:List Value}{bw:List Tmp}{c9 body:Code}{H:au}(hf:H.dS<=H.next):gJ H (laid T bw c9 body H):=by
 refine⟨by show _<=H.next+2;omega,rfl,fun i an=>?_,fun i h aT=>?_,fun wf=>⟨fun i an=>?_,fun i an=>?_⟩⟩;rw[PX,if_neg (by omega),if_neg (by omega)];rw[PX]at aT;split at aT;rename_i e;subst e;exact⟨by omega,by show _<H.next+2;omega⟩
 grind[te]
 show i<H.next+2;rw[KI wf]at an;split at an;omega;split at an;omega;have:=wf.lt i an;omega;have aD:eZ (laid T bw c9 body H).ed i=if Nat.succ H.next=i then some ⟨T,bw,c9,body,.ready⟩else eZ H.ed i:=qN _ _ _
 rw[aD]at an;show((H.t.set H.next none).set (Nat.succ H.next) none).get i=none;by_cases h1:Nat.succ H.next=i
 simp_all[Tr.Ai]
 rw[if_neg h1]at an;rw[Tr.l9 _ _ _ _ (Ne.symm h1)];by_cases h2:i=H.next
 simp_all[Tr.Ai]
 rw[Tr.l9 _ _ _ _ h2];exact wf.td i an
theorem amA{bB:au}{l:Nat}{x:hP}{ef:List (Nat×hP)}(aD:bB.ed=(l,x)::ef)(nI:bB.dS<=l)(XQ:eZ ef l=none):gJ bB ⟨bB.t,bB.next,bB.dS,ef⟩:=by
 have h2:∀j,j≠l->eZ ef j=eZ bB.ed j:=fun j bm=>by simp_all[qN,Ne.symm]
 have mN:∀i,i≠l->au.cX ⟨bB.t,bB.next,bB.dS,ef⟩ i=bB.cX i:=fun i an=>by show(match bB.get i with|some b=>some (Obj.cells b)|none=>(eZ ef i).map .loop)=_;rw[h2 i an];rfl
 have sub:∀i,au.cX ⟨bB.t,bB.next,bB.dS,ef⟩ i≠none->bB.cX i≠none:=fun i an e=>by
  by_cases he:i=l
  simp_all[te,qN]
  simp_all
 refine⟨Nat.le_refl _,rfl,fun i an=>mN i (by omega),fun i h aT=>absurd h (sub i aT),fun wf=>⟨fun i an=>wf.lt i (sub i an),fun i an=>?_⟩⟩;show bB.get i=none;refine wf.td i fun e=>?_
 grind
theorem mi(bI:iP P bo)(dv:Bool):∀(c:Code) (T:List Value) (H:au) (a1:el),H.dS<=H.next->(dN P dv c).f bo T H=some a1->gJ H a1.H:=by
 intro c;induction c with
 | skip=>intro T H a1 _ h;cases h;exact gJ.refl _
 | region id bD d=>
  intro T H a1 hf h;cases d with
  | true=>
   have h:o4 P bo bD.toList T H=some a1:=h;have aT:=h;unfold o4 at aT;split at aT;obtain⟨_,aP,h1,_,h3,_,_⟩:=Ks bD.toList _ _ _ _ _ aT;exact Kv bI h1 hf h3
   grind
  | false=>exact(vw bI bD.toList _ _ _ _ hf h).1
 | seq x y cZ wS=>
  intro T H a1 hf h;have h:nE ((dN P dv x).f bo T H) (fun T H=>(dN P dv y).f bo T H)=some a1:=h;obtain⟨b3,h1,h2⟩:=th h;have m:=cZ _ _ _ hf h1;rcases h2 with⟨_,h2⟩|⟨_,rfl⟩
  exact m.trans (wS _ _ _ (m.wf hf) h2);exact m
 | cond c x y cZ wS=>
  intro T H a1 hf h;have h:pH bo ((ek c).g T) (dN P dv x) (dN P dv y) T H=some a1:=h;unfold pH at h
  grind
 | block id x cZ=>grind[dN,PW]
 | loop x _=>intro T H a1 hf h;exact bI.jc (.loop dv x T H) a1 h hf
 | rangeFunc g bw c9 body _ _=>
  intro T H a1 hf h;cases dv with
  | false=>cases h
  | true=>have h:wy bo ((Ei g).g T) bw.toList c9 body T H=some a1:=h;obtain⟨f,args,c6,v,bB,x,ef,_,h2,h3,aG,a6,rfl,_⟩:=XP h;have eY:=PY (T:=T) (bw:=bw.toList) (c9:=c9) (body:=body) hf;have fw:=bI.jc _ _ h2 (eY.wf hf);exact(eY.trans fw).trans (amA h3 aG a6)
 | exit id=>intro T H a1 _ h;cases h;exact gJ.refl _
 | label l=>intro T H a1 _ h;cases h;exact gJ.refl _
 | ret=>intro T H a1 _ h;cases h;exact gJ.refl _
 | _=>intros;rename_i h;cases h
theorem ug.trans{σ τ:c8}{h h1:Nat->Option Obj}{H bB:au}{w dT:World}{ds XR KJ:List Deferred}{a1:el}(k:hK P B σ h H w)(cW:gN σ H.next bB.next)(s:fW B σ h H w τ h1 bB dT)(aO:XR=KJ++ds)(hm:Pr τ h1 bB H.next KJ):
  ∀e cH aW,ug B τ h1 bB dT XR a1 e cH aW->ug B σ h H w ds a1 e cH aW:=by
 rintro e cH aW ⟨bP,XS,jB,h2,q2,PZ,cS,eI⟩;have lE:∀id,h1 id=some .n8->bB.cX id=none->id<bB.next->h2 id=some .n8/\a1.H.cX id=none:=by
  intro id cg cd g3;have g4:a1.H.cX id=none:=by
   cases bM:a1.H.cX id with
   | none=>rfl
   | some b=>have:=(eI.jc.dd id cd (by grind)).1;omega
  refine⟨eI.yZ id _ ?_,g4⟩
  simp_all[fx]
 refine⟨bP,XS++KJ,jB,h2,by simp_all,⟨fun d Hi=>?_,?_⟩,cS,s.trans k cW eI⟩;rcases mem_append.1 Hi with Hi|Hi
 obtain⟨id,c,o,cl,a7,bt,ei,h6,hR,ih⟩:=PZ.EH d Hi;exact⟨id,c,o,cl,a7,bt,ei,h6,Nat.le_trans s.jc.dO hR,ih⟩;obtain⟨id,c,o,cl,a7,bt,ei,h6,hR,ih⟩:=hm.EH d Hi;obtain⟨dZ,gd⟩:=lE id ei h6 ih;exact⟨id,c,o,cl,a7,eI.hD.mono _ _ bt,dZ,gd,hR,Nat.lt_of_lt_of_le ih eI.jc.dO⟩;refine pairwise_append.2 ⟨PZ.Cw,hm.Cw,fun d p7 eM rH=>?_⟩;obtain⟨id,c,o,cl,a7,bt,ei,h6,hR,ih⟩:=PZ.EH d p7;obtain⟨ve,bV,dK,aFh,gY,gZ,f3,f4,f5,qR⟩:=hm.EH eM rH;obtain⟨dZ,gd⟩:=lE ve f3 f4 qR;rw[a7,gY];intro e;injection e with e
 exact eI.hD.gb.lU id ve _ _ (by omega) ei dZ rfl _ _ _ _ _ _ bt (eI.hD.mono _ _ gZ) e
theorem amB(c:Call)(de:TypeId)(a:Act)(f:FuncId)(first cap:Array Value)(aH:Operand)(aB:c.callee=.value aH)(hf:a.eval aH=.func (.func f) first cap)(w:World):
  ∃d,(resolve a.eval c de).run P w=.ok d w/\(invoke d.target d.args).run P w=(callFunc f (first++c.args.map a.eval++cap)).run P w:=by
 simp only[resolve,aB,hf,Deferred.ofValue];exact⟨_,rfl,rfl⟩
theorem amC{σ:c8}{h:Nat->Option Obj}{H:au}{w:World}(k:hK P B σ h H w){mC:Nat}(Eu:Nat.succ (Nat.succ H.next)<=mC)(cW:gN σ H.next mC){T:List Value}{tmps:Array Value}(bk:bL σ T tmps.toList)(bw:Array Tmp)(c9 body:Code)(fn:FuncId):
  let nk:c8:=fun id=>if id=H.next then some (w.heap.size,0,0)else if id=Nat.succ H.next then some (w.heap.size+1,0,0)else σ id
  let aT:Nat->Option Obj:=fun id=>if id=H.next then some .n8 else if id=Nat.succ H.next then some (.loop ⟨T,bw.toList,c9,body,.ready⟩)else h id
  fW B σ h H w nk aT (laid T bw.toList c9 body H) ((w.alloc (.deferred (some []))).alloc (.loop {state:=.ready,pending:=none,fn,tmps,params:=bw,assign:=c9,body,defers:=w.heap.size})):=by
 intro nk aT;have fo:σ H.next=none:=cW _ (Nat.le_refl _) (by omega);have fN:σ (Nat.succ H.next)=none:=cW _ (by omega) (by omega);have dC:Nat.succ H.next≠H.next:=by omega
 have mono:∀id x,σ id=some x->nk id=some x:=by grind
 have hh:∀id b,h id=some b->id≠H.next/\id≠Nat.succ H.next:=by
  intro id b ak;obtain⟨c,o,s,e⟩:=(k.gb.ga id b ak).xT
  grind
 have lt:∀id b c o s,h id=some b->σ id=some (c,o,s)->c<w.heap.size:=fun id b c o s ak aB=>((k.gb.ga id b ak).e0 aB).2
 generalize hL:(Loop.mk LoopState.ready none fn tmps bw c9 body w.heap.size)=L;have rK:∀c,c<w.heap.size->((w.alloc (.deferred (some []))).alloc (.loop L)).heap[c]?=w.heap[c]?:=by
  intro c aB;show((w.heap.push _).push _)[c]?=_
  grind
 have EI:((w.alloc (.deferred (some []))).alloc (.loop L)).heap[w.heap.size]?=some (.deferred (some [])):=by
  show((w.heap.push _).push _)[_]?=_
  grind
 have amD:((w.alloc (.deferred (some []))).alloc (.loop L)).heap[w.heap.size+1]?=some (.loop L):=by
  show((w.heap.push _).push _)[_]?=_
  grind
 have fc:((w.alloc (.deferred (some []))).alloc (.loop L)).heap.size=w.heap.size+2:=by simp_all
 have vv:∀id b,aT id=some b->(id=H.next/\b=.n8)\/(id=Nat.succ H.next/\b=.loop ⟨T,bw.toList,c9,body,.ready⟩)\/(id≠H.next/\id≠Nat.succ H.next/\h id=some b):=by grind
 have dt:nk H.next=some (w.heap.size,0,0):=if_pos rfl;have cP:nk (Nat.succ H.next)=some (w.heap.size+1,0,0):=by grind
 have sz:∀id,id≠H.next->id≠Nat.succ H.next->nk id=σ id:=fun id a7 bt=>by grind
 have aFi:∀id b,h id=some b->sx nk ((w.alloc (.deferred (some []))).alloc (.loop L)) id b:=by
  intro id b ak;have bM:=k.gb.ga id b ak;have aD:=lt id b;cases b with
  | cells x=>obtain⟨c,o,s,dD,de,eC,h1,h2,h3,aG,a6,bq⟩:=bM;exact⟨c,o,s,dD,de,eC,mono _ _ h1,by simp_all,h3,aG,a6.mono mono,bq⟩
  | loop x=>obtain⟨c,o,s,cL,h1,h2,h3⟩:=bM;exact⟨c,o,s,cL,mono _ _ h1,by simp_all,h3.mono mono⟩
  | n8=>obtain⟨c,o,s,h1,h2⟩:=bM;exact⟨c,o,s,mono _ _ h1,by simp_all⟩
 have gb:lW nk B aT ((w.alloc (.deferred (some []))).alloc (.loop L)):=by
  refine⟨fun id b ak=>?_,fun id b ak aM=>?_,fun i j iU gI qM an bm aM=>?_⟩;rcases vv id b ak with⟨rfl,rfl⟩|⟨rfl,rfl⟩|⟨_,_,ak⟩
  exact⟨_,_,_,dt,EI⟩;subst hL;exact⟨_,_,_,_,cP,amD,_,rfl,bk.mono mono,rfl,rfl,rfl,rfl,rfl⟩
  simp_all
  rcases vv id b ak with⟨rfl,rfl⟩|⟨rfl,rfl⟩|⟨_,_,ak⟩
  exact⟨_,_,_,dt,k.b6⟩;exact⟨_,_,_,cP,Nat.le_trans k.b6 (le_succ _)⟩;obtain⟨c,o,s,a7,bt⟩:=k.gb.own id b ak aM
  simp_all
  intro c o s bV dK cl aB gX;rcases vv i iU an with⟨rfl,rfl⟩|⟨rfl,rfl⟩|⟨cU,cR,an⟩<;>rcases vv j gI bm with⟨rfl,rfl⟩|⟨rfl,rfl⟩|⟨b1,b2,bm⟩
  omega
  simp_all
  grind
  simp_all
  omega
  grind
  grind
  grind
  rw[sz i cU cR]at aB;rw[sz j b1 b2]at gX;exact k.gb.lU i j iU gI qM an bm aM _ _ _ _ _ _ aB gX
 refine⟨⟨gb,by show _<=H.next+2;omega,fun id fp=>sz id (fun e=>?_) (fun e=>?_),mono,rfl,rfl,rfl,by omega,fun c aB _=>rK c aB,fun c ⟨id,b,o,s,ak,aM,aB⟩ dw=>?_⟩,fun id b ak=>?_,fun id b ak=>?_,PY k.dc⟩;rcases fp with h1|h1
 omega;have:H.next+2<=id:=h1;omega;rcases fp with h1|h1
 omega;have:H.next+2<=id:=h1;omega;rcases vv id b ak with⟨rfl,rfl⟩|⟨rfl,rfl⟩|⟨cU,cR,ak⟩
 simp_all
 grind
 rw[sz id cU cR]at aB;exact⟨id,b,o,s,ak,aM,aB⟩;rw[KI k.wf]at ak;split at ak
 grind
 rename_i a7;split at ak;cases ak;rename_i bt;show(if _ then _ else _)=_;rw[if_neg bt,if_neg a7];exact k.sub id b ak;unfold fx at ak;split at ak
 grind
 rw[KI k.wf]at ak;split at ak
 grind
 rename_i a7;split at ak;cases ak;rename_i bt;show(if _ then _ else _)=_;rw[if_neg bt,if_neg a7];exact k.sub id b ak
theorem Hj(dW:cz P)(bI:iP P bo)(dv:Bool):∀(c:Code) (T:List Value) (H:au) (a1:el),(dN P dv c).f bo T H=some a1->
  ∀(σ:c8) (h:Nat->Option Obj) (w:World) (a:Act) (r:Option Nat),(dv=true->r=none)->hK P B σ h H w->gN σ H.next a1.H.next->bL σ T a.tmps.toList->c.wpIn (ew r) 0 P (ug B σ h H w a.defers a1) a w:=by
 intro c;have plain:∀ {σ:c8} {h:Nat->Option Obj} {H:au} {w:World} {a:Act} {a1:el} {e:Exit} {τ:c8} {aT:Nat->Option Obj} {cH:Act} {aW:World},e=Cv a1.c6->cH.defers=a.defers->bL τ a1.T cH.tmps.toList->fW B σ h H w τ aT a1.H aW->ug B σ h H w a.defers a1 e cH aW:=
  fun bP q2 cS eI=>⟨bP,[],_,_,q2,⟨by simp,.nil⟩,cS,eI⟩
 induction c with
 | skip=>intro T H a1 U σ h w a r _ k _ bk;cases U;exact wpIn_skip (plain rfl rfl bk (fW.refl k))
 | region id bD d=>
  intro T H a1 U σ h w a r _ k cW bk;cases d with
  | true=>exact amz dW bI bD id r k cW bk U
  | false=>refine wpIn_region ?_;have hm:=vw bI bD.toList _ _ _ _ k.dc U;rw[range_eq_range',<- Array.length_toList];refine Ha dW bI bD r bD.toList 0 (by simp) σ h T H w a a1 k cW bk U ?_;intro τ aT cH aW bP q2 cS;exact plain (by rw[hm.2];rfl) q2 bP cS
 | seq x y cZ wS=>
  intro T H a1 U σ h w a r ht k cW bk;have U:nE ((dN P dv x).f bo T H) (fun T H=>(dN P dv y).f bo T H)=some a1:=U;obtain⟨b3,h1,h2⟩:=th U;have fw:=mi bI dv x _ _ _ k.dc h1;refine wpIn_seq ?_;rcases h2 with⟨ao,h2⟩|⟨ao,rfl⟩
  ·have dV:=mi bI dv y _ _ _ (fw.wf k.dc) h2;refine wpIn_mono (cZ _ _ _ h1 σ h w a r ht k (cW.left dV.dO) bk) ?_;rintro e cH aW ⟨bP,ms,τ,aT,q2,ET,cS,eI⟩;rw[ao]at bP;subst bP;show y.wpIn (ew r) 0 P (ug B σ h H w a.defers a1) cH aW;exact wpIn_mono (wS _ _ _ h2 τ aT aW cH r ht (k.next eI) (cW.right eI.hD) cS) (ug.trans k (cW.left dV.dO) eI q2 ET)
  ·refine wpIn_mono (cZ _ _ _ h1 σ h w a r ht k cW bk) ?_;rintro e cH aW q;have bP:=q.1;cases he:a1.c6 with
   | normal=>simp_all
   | exit id=>rw[he]at bP;subst bP;exact q
   | ret=>rw[he]at bP;subst bP;exact q
 | cond c x y cZ wS=>
  intro T H a1 U σ h w a r ht k cW bk;have U:pH bo ((ek c).g T) (dN P dv x) (dN P dv y) T H=some a1:=U;unfold pH at U
  grind[wpIn_cond,KH]
 | block id x cZ=>
  intro T H a1 U σ h w a r ht k cW bk;have U:B9 id ((dN P dv x).f bo T H)=some a1:=U;obtain⟨b3,h1,Aq,amE,h2⟩:=PW U;refine wpIn_block ?_;rw[amE]at cW;refine wpIn_mono (cZ _ _ _ h1 σ h w a r ht k cW bk) ?_;rintro e cH aW ⟨bP,ms,τ,aT,q2,ET,cS,eI⟩;have dy:∀e,e=Cv a1.c6->ug B σ h H w a.defers a1 e cH aW:=fun e he=>⟨he,ms,τ,aT,q2,by simp_all,by simp_all,by simp_all⟩
  rcases h2 with⟨cg,cd⟩|⟨cg,cd⟩
  ·rw[cg]at bP;subst bP;show(if id=id then _ else _);rw[if_pos rfl];exact dy _ (by rw[cd];rfl)
  ·cases he:b3.c6 with
   | normal=>rw[he]at bP;subst bP;exact dy _ (by grind)
   | ret=>rw[he]at bP;subst bP;exact dy _ (by grind)
   | exit i=>rw[he]at bP;subst bP;show(if i=id then _ else _);rw[if_neg (fun e=>cg (by rw[he,e]))];exact dy _ (by rw[cd,he];rfl)
 | loop x _=>intro T H a1 U σ h w a r ht k cW bk;obtain⟨n,aU⟩:=bI.loop;exact wpIn_loop_rounds n (aU dv x T H a1 U B σ h w a r ht k cW bk)
 | rangeFunc g bw c9 body _ _=>
  intro T H a1 U σ h w a r ht k cW bk;cases dv with
  | false=>cases U
  | true=>
   have P0:=ht rfl;subst P0;have U:wy bo ((Ei g).g T) bw.toList c9 body T H=some a1:=U;obtain⟨f,args,c6,v,bB,x,ef,a7,bt,ei,h6,hR,ih,sA,vx⟩:=XP U;have eY:=PY (T:=T) (bw:=bw.toList) (c9:=c9) (body:=body) k.dc;have fw:=bI.jc _ _ bt (eY.wf k.dc);have xN:Nat.succ (Nat.succ H.next)<=bB.next:=fw.dO;have KK:gN σ H.next bB.next:=by simp_all
   have dt:=amC k xN KK bk bw c9 body;refine wpIn_rangeFunc fun fn _=>?_
   have dt:=dt fn;revert dt;generalize aFj:(fun id=>if id=H.next then some (w.heap.size,0,0)else if id=Nat.succ H.next then some (w.heap.size+1,0,0)else σ id:c8)=nk;generalize aFk:(fun id=>if id=H.next then some Obj.n8 else if id=Nat.succ H.next then some (.loop ⟨T,bw.toList,c9,body,.ready⟩)else h id:Nat->Option Obj)=aT;intro dt;have dZ:=k.next dt;have gY:nk H.next=some (w.heap.size,0,0):=by grind
   have gZ:nk (Nat.succ H.next)=some (w.heap.size+1,0,0):=by grind
   have f3:aT H.next=some .n8:=by grind
   unfold vb at a7;split at a7
   case h_2=>cases a7
   case h_1 fz first cap KL=>
   split at a7
   case h_3=>cases a7
   case h_2 l=>grind
   case h_1 aFl=>
   cases a7;have rO:∃y5 vp,a.eval g=.func (.func f) y5 vp/\bL σ first.toList y5.toList/\bL σ cap.toList vp.toList:=by
    cases g with
    | tmp i=>
     have h1:cf T i=.func (.func f) first cap:=KL
     have h2:=bk.getD i;rw[pI]at h1;rw[h1]at h2;have h3:a.tmps.toList.getD i undef=a.tmps.getD i undef:=by grind[Array.getD_eq_getD_getElem?]
     rw[h3]at h2;show∃y5 vp,a.tmps.getD i undef=_/\_;generalize a.tmps.getD i undef=u at h2;cases h2
     grind
    | const u=>cases KL
    | global i=>cases KL
    | func i=>cases KL
   obtain⟨y5,vp,cg,cd,g3⟩:=rO;have Cz:bL nk (iC first.toList (iC [wx (Nat.succ H.next)] cap.toList)) (y5++#[Value.func (.yield (w.heap.size+1)) #[] #[]]++vp).toList:=by rw[jm,jm];simp only[Array.toList_append];rw[append_assoc];exact(cd.mono dt.hD.mono).append (bL.append (.sm _ _ _ _ gZ .nil) (g3.mono dt.hD.mono))
   obtain⟨⟨aFm,cc,hf,ak⟩,xX⟩:=bI.call f _ _ c6 v bB bt B nk aT _ _ dZ (KK.right dt.hD) Cz;obtain⟨d,d1,d2⟩:=amB (P:=P) (rangeCall g (w.heap.size+1)) 0 a f y5 vp g rfl cg ((w.alloc (.deferred (some []))).alloc (.loop {state:=.ready,pending:=none,fn,tmps:=a.tmps,params:=bw,assign:=c9,body,defers:=w.heap.size}));refine⟨w.heap.size+1,[{target:=.collected w.heap.size,args:=#[]}],_,d,_,f,y5++#[Value.func (.yield (w.heap.size+1)) #[] #[]]++vp,(w.alloc (.deferred (some []))).alloc (.loop {state:=.ready,pending:=none,fn,tmps:=a.tmps,params:=bw,assign:=c9,body,defers:=w.heap.size}),run_enterLoop_outer fn a.tmps bw c9 body,d1,fun _ _=>trivial,?_,fun aO=>absurd aO (by simp),?_⟩
   ·rw[d2,Kk dW hf ak];have amF:(rangeCall g (w.heap.size+1)).args.map a.eval=#[Value.func (.yield (w.heap.size+1)) #[] #[]]:=by simp only[map_toArray,map_cons,map_nil];rfl
    rw[amF]
   refine CallsIn.mono xX ?_;rintro e kz ⟨aQ,τ,h3,rfl,_,cP⟩;have mg:=dZ.next cP;have mc:eZ bB.ed (Nat.succ H.next)=some x:=by rw[ei,qN,if_pos rfl]
   have dn:=cP.hD.mono _ _ gZ;have a8:=cP.hD.mono _ _ gY;obtain⟨_,c,o,s,L,bP,q2,cS,eI⟩:=mg.KE mc vx;rw[dn]at bP;cases bP;have AA:L.state≠.busy:=by
    have:=eI.st;cases ao:x.st with
    | ready=>rw[ao]at this;rw[this.1];simp
    | busy=>simp_all
    | over e=>rw[ao]at this;cases e with
     | normal=>exact this.elim
     | ret=>rw[this.1];simp
     | exit id=>rw[this.1];simp
   have sz:=XJ mg mc vx h6 (ES:=ef) none hR (fun j bm=>by rw[ei,qN,if_neg (Ne.symm bm)]) dn (.loop {L with state:=.exhausted}) (fun _ h=>by cases h);have amG:h3 H.next=some .n8/\bB.cX H.next=none:=by
    have z0:(laid T bw.toList c9 body H).cX H.next=none:=by rw[KI k.wf,if_neg (by omega),if_pos rfl]
    have mF:bB.cX H.next=none:=by
     cases bM:bB.cX H.next with
     | none=>rfl
     | some b=>have:=(cP.jc.dd _ z0 (by grind)).1;have:H.next+2<=H.next:=this;omega
    refine⟨cP.yZ _ _ ?_,mF⟩;unfold fx
    grind
   have wT:∀e,e=Cv a1.c6->ug B σ h H w a.defers a1 e {a with defers:=[{target:=.collected w.heap.size,args:=#[]}]++a.defers} (kz.putObj (w.heap.size+1) (.loop {L with state:=.exhausted})):=by
    intro e he;have aFn:(if H.next=Nat.succ H.next then(none:Option hP).map Obj.loop else h3 H.next)=some .n8:=by grind
    have AB:au.cX ⟨bB.t,bB.next,bB.dS,ef⟩ H.next=none:=by rw[te];have:=te.1 amG.2;refine⟨this.1,?_⟩;have h2:=this.2;rw[ei,qN,if_neg (by omega)]at h2;exact h2
    subst ih;refine⟨he,[{target:=.collected w.heap.size,args:=#[]}],τ,(fun id=>if id=Nat.succ H.next then(none:Option hP).map Obj.loop else h3 id),rfl,⟨?_,by simp⟩,?_,?_⟩
    rotate_left 2
    ·exact dt.trans k (KK.left fw.dO |>.left (Nat.le_refl _)) (cP.trans dZ (KK.right dt.hD) sz)
    ·grind
    ·exact bk.mono fun id x ao=>cP.hD.mono _ _ (dt.hD.mono _ _ ao)
   refine⟨L.pending,_,run_endLoop cS AA,?_⟩;have rN:a1.c6=(match x.st with|.over e=>e|_=>.normal):=by rw[ih]
   have ev:=eI.st;cases ao:x.st with
   | ready=>
    rw[ao]at ev rN;split
    ·exact wT _ (by rw[rN];rfl)
    ·rename_i bJ;rw[ev.2]at bJ;cases bJ
   | busy=>simp_all
   | over e=>
    rw[ao]at ev rN;cases e with
    | normal=>exact ev.elim
    | ret=>
     split
     ·rename_i bJ;rw[ev.2]at bJ;cases bJ
     ·rename_i bJ;rw[ev.2]at bJ;cases bJ;exact wpIn_ret (wT _ (by rw[rN];rfl))
    | exit id=>
     split
     ·rename_i bJ;rw[ev.2]at bJ;cases bJ
     ·rename_i bJ;rw[ev.2]at bJ;cases bJ;exact wpIn_exit (wT _ (by rw[rN];rfl))
 | exit id=>intro T H a1 U σ h w a r _ k _ bk;cases U;exact wpIn_exit (plain rfl rfl bk (fW.refl k))
 | label l=>intro T H a1 U σ h w a r _ k _ bk;cases U;exact wpIn_label (plain rfl rfl bk (fW.refl k))
 | ret=>intro T H a1 U σ h w a r _ k _ bk;cases U;exact wpIn_ret (plain rfl rfl bk (fW.refl k))
 | _=>intros;rename_i U _ _ _ _ _ _ _ _ _;cases U
end
end Go.Ab
namespace Go.Ab
open Go
variable[h7]
section
variable{P:Program}{bo:hQ}{B:Nat}
theorem XT{t:TypeId}{a v:Value}{H ab:au}(U:(oI P t).f a H=some (v,ab)):∃id off,a=.pointer (some ⟨id,off,none⟩):=by
 unfold oI at U;split at U;simp only[bZ]at U
 grind
 simp only[aw]at U
 grind
 grind
def KM(tmps:Array Value):ResultVar->Sem Value
 | .tmp t=>pure (tmps.getD t undef)
 | .cell a t=>do loadVar t (<- asAddr (tmps.getD a undef))
section
variable{σ:c8}{h:Nat->Option Obj}{H:au}{w:World}{T:List Value}{tmps:Array Value}
theorem XU(k:hK P B σ h H w)(bk:bL σ T tmps.toList){r:ResultVar}{v:Value}(U:Eo P T H r=some v):∃aQ,(KM tmps r).run P w=.ok aQ w/\cq σ v aQ:=by
 have oP:∀i,cq σ (cf T i) (tmps.getD i undef):=fun i=>by
  have h2:=bk.getD i
  simp_all[pI]
 cases r with
 | tmp t=>cases U;exact⟨_,rfl,oP t⟩
 | cell a t=>
  unfold Eo at U;simp only at U;split at U;rename_i u bB aD;cases U;obtain⟨id,off,he⟩:=XT aD;obtain⟨_,aQ,h1,h2⟩:=Wj k.gb.cells (fun id _ b ak=>xS.2 (k.sub id _ (by simp_all[au.cX]))) (oP a) aD;refine⟨aQ,?_,h2⟩;have hg:=oP a;rw[he]at hg;obtain⟨_,c,o,s,bJ,_⟩:=hg.GP
  simp_all[Instr.loadAt,Instr.sureAddr,KM,asAddr]
  grind
theorem XV(k:hK P B σ h H w)(bk:bL σ T tmps.toList):∀(dI:List ResultVar) (vs:List Value),Af P T H dI=some vs->∃nG,(dI.mapM (KM tmps)).run P w=.ok nG w/\bL σ vs nG
 | [],vs,U=>by cases U;exact⟨[],rfl,.nil⟩
 | r::dI,vs,U=>by unfold Af at U;split at U;rename_i v h1;split at U;rename_i amH h2;cases U;obtain⟨aQ,cg,cd⟩:=XU k bk h1;obtain⟨amI,g3,g4⟩:=XV k bk dI amH h2;exact⟨aQ::amI,by simp only[mapM_cons,Sem.run_bind,cg,Result.andThen_ok,g3,Sem.run_pure],cd.cons g4⟩;cases U;cases U
theorem KN(fn:Func)(tmps:Array Value):results fn tmps=(do let vs<-fn.results.mapM (KM tmps);pure (if h:vs.size=1 then vs[0]else .tuple vs)):=by rfl
theorem KO(k:hK P B σ h H w){fn:Func}(bk:bL σ T tmps.toList){v:Value}(U:Ag P fn.results.toList T H=some v):∃aQ,(results fn tmps).run P w=.ok aQ w/\cq σ v aQ:=by
 rw[KN,Array.mapM_eq_mapM_toList];unfold Ag at U;split at U;rename_i r he;obtain⟨aQ,cg,cd⟩:=XU k bk U
 simp_all
 rename_i dC;split at U;rename_i vs aD;cases U;obtain⟨nG,cg,cd⟩:=XV k bk _ _ aD;refine⟨.tuple nG.toArray,?_,.tuple _ _ (by omega) .nil⟩;simp only[Sem.run_bind,Sem.run_map,cg,Result.andThen_ok,Sem.run_pure];have:¬nG.toArray.size=1:=by
  intro h1;have h2:=cd.length;have h3:∀(dI:List ResultVar) (vs:List Value),Af P T H dI=some vs->vs.length=dI.length:=by
   intro dI;induction dI with
   | nil=>intro vs h;cases h;rfl
   | cons r dI bg=>grind[Af]
  grind[length_eq_one_iff]
 simp_all
 grind
end
theorem Qa{f:FuncId}{args:List Value}{H:au}{a1:el}(U:(vf P f).f bo args H=some a1):
  ∃fn c b3 v,P.funcs[f]?=some fn/\fn.body=some c/\(dN P true c).f bo (args++List.replicate (fn.ntmps-args.length) undef) H=some b3/\(∀id,b3.c6≠.exit id)/\Ag P fn.results.toList b3.T b3.H=some v/\a1=⟨.ret,[v],b3.H⟩:=by
 unfold vf at U;split at U;rename_i fn hf;split at U;rename_i c ak;simp only at U;unfold wA at U
 grind[jm,Az,hB]
 grind
 grind
theorem XW{σ:c8}{h:Nat->Option Obj}{H:au}{w:World}(fn:Func)(hS:hK P B σ h H w)(nI:H.dS<=H.next):
  ∀(ms:List Deferred) {τ:c8} {h1:Nat->Option Obj} {bB:au} {dT:World} {T:List Value} {tmps:Array Value} {v:Value},gN σ H.next bB.next->Pr τ h1 bB H.next ms->fW B σ h H w τ h1 bB dT->bL τ T tmps.toList->Ag P fn.results.toList T bB=some v->
   LeavesInM (ew none) 0 P fn tmps (fun e aW=>∃aQ τ aT,e=.returned aQ/\cq τ v aQ/\fW B σ h H w τ aT bB aW) ms .returning dT
 | [],τ,h1,bB,dT,T,tmps,v,cW,hm,st,bk,sw=>by obtain⟨aQ,cg,cd⟩:=KO (hS.next st) bk sw;exact⟨aQ,cg,aQ,τ,h1,rfl,cd,st⟩
 | d::ms,τ,h1,bB,dT,T,tmps,v,cW,hm,st,bk,sw=>by
  refine⟨by simp,.inl ?_⟩;obtain⟨id,c,o,s,a7,bt,ei,h6,hR,ih⟩:=hm.EH d (by simp);have dZ:=hS.next st;have At:=dZ.gb.ga id _ ei;obtain⟨bV,dK,cl,bP,q2⟩:=At;rw[bt]at bP;cases bP;refine⟨c,_,a7,run_takeDeferred q2,?_⟩;have G7:∀j b bV dK cl,j≠id->h1 j=some b->τ j=some (bV,dK,cl)->bV≠c:=fun j b bV dK cl dC ak gX e=>by subst e;exact dZ.gb.lU id j _ b (Ne.symm dC) ei ak rfl _ _ _ _ _ _ bt gX rfl
  have aB:c<dT.heap.size:=(Array.getElem?_eq_some_iff.1 q2).1;have gb:lW τ B (fun j=>if j=id then none else h1 j) (dT.putObj c (.deferred none)):=by refine⟨fun j b ak=>?_,fun j b ak aM=>?_,fun i j iU gI qM an bm aM=>?_⟩;have ak:(if j=id then none else h1 j)=some b:=ak;split at ak;cases ak;rename_i dC;have bM:=dZ.gb.ga j b ak;obtain⟨dg,b3,dt,gY⟩:=bM.xT;exact bM.put gY (G7 j b _ _ _ dC ak gY);have ak:(if j=id then none else h1 j)=some b:=ak;split at ak;cases ak;exact dZ.gb.own j b ak aM;have an:(if i=id then none else h1 i)=some iU:=an;have bm:(if j=id then none else h1 j)=some gI:=bm;split at an;cases an;split at bm;cases bm;exact dZ.gb.lU i j iU gI qM an bm aM
  have cd:jK B τ h1 bB.next dT τ (fun j=>if j=id then none else h1 j) bB.next (dT.putObj c (.deferred none)):=by refine⟨gb,Nat.le_refl _,fun _ _=>rfl,fun _ _ h=>h,rfl,rfl,rfl,Nat.le_of_eq World.putObj_size.symm,fun x ao eU=>?_,fun x ⟨j,b,b3,dt,ak,aM,ao⟩ _=>?_⟩;refine World.putObj_heap_other ?_;rintro rfl;exact eU ⟨id,_,o,s,ei,rfl,bt⟩;have ak:(if j=id then none else h1 j)=some b:=ak;split at ak;cases ak;exact⟨j,b,b3,dt,ak,aM,ao⟩
  have amJ:fW B σ h H w τ (fun j=>if j=id then none else h1 j) bB (dT.putObj c (.deferred none)):=by
   refine⟨st.hD.trans cd,fun j b ak=>?_,fun j b ak=>?_,st.jc⟩;show(if j=id then none else h1 j)=some b;rw[if_neg (fun e=>by simp_all)];exact dZ.sub j b ak;show(if j=id then none else h1 j)=some b;by_cases bm:j=id;exfalso;subst bm;have uk:H.cX j=none:=Classical.byContradiction fun e=>absurd (hS.wf.lt j e) (by omega)
   unfold fx at ak;rw[if_pos (by grind)]at ak;obtain⟨dg,b3,dt,gY⟩:=(hS.gb.ga j b ak).xT;rw[cW j hR ih]at gY;cases gY;rw[if_neg bm];exact st.yZ j b ak
  refine XW fn hS nI ms cW ⟨fun eM XX=>?_,(pairwise_cons.1 hm.Cw).2⟩ amJ bk sw;obtain⟨ve,dg,b3,dt,gY,gZ,f3,f4,f5,qR⟩:=hm.EH eM (by simp[XX]);refine⟨ve,dg,b3,dt,gY,gZ,?_,f4,f5,qR⟩;show(if ve=id then none else h1 ve)=_;rw[if_neg ?_];exact f3;rintro rfl;rw[bt]at gZ;cases gZ;exact(pairwise_cons.1 hm.Cw).1 eM XX (by grind)
theorem amK(dW:cz P)(bI:iP P bo){f:FuncId}{args:List Value}{H ab:au}{c6:nz}{v:Value}(U:(vf P f).f bo args H=some ⟨c6,[v],ab⟩){σ:c8}{h:Nat->Option Obj}{w:World}{gp:Array Value}(k:hK P B σ h H w)(cW:gN σ H.next ab.next)(hv:bL σ args gp.toList):
  (∃fn c,P.funcs[f]?=some fn/\fn.body=some c)/\CallsIn (ew none) 0 P f gp w (fun e aW=>∃aQ τ aT,e=.returned aQ/\cq τ v aQ/\fW B σ h H w τ aT ab aW):=by
 obtain⟨fn,c,b3,ej,hf,ak,aB,ao,sw,bM⟩:=Qa U;cases bM;refine⟨⟨fn,c,hf,ak⟩,callsIn_of_wp_marks hf ak trivial ?_⟩;have hlen:args.length=gp.size:=by have:=hv.length;omega
 have bk:bL σ (args++List.replicate (fn.ntmps-args.length) undef) (gp++Array.replicate (fn.ntmps-gp.size) undef).toList:=by
  rw[Array.toList_append,Array.toList_replicate,hlen];refine hv.append ?_;generalize fn.ntmps-gp.size=n;induction n with
  | zero=>exact .nil
  | succ n bg=>exact cq.undef.cons bg
 refine wpIn_mono (Hj dW bI true c _ _ _ aB σ h w _ none (fun _=>rfl) k cW bk) ?_;rintro e cH aW ⟨bP,ms,τ,aT,q2,ET,cS,eI⟩;have amL:cH.defers=ms:=by grind
 have wT:LeavesInM (ew none) 0 P fn cH.tmps (fun e aW=>∃aQ τ aT,e=.returned aQ/\cq τ v aQ/\fW B σ h H w τ aT b3.H aW) cH.defers .returning aW:=by rw[amL];exact XW fn k k.dc ms cW ET eI cS sw
 cases he:b3.c6 with
 | exit id=>simp_all
 | normal=>rw[he]at bP;subst bP;exact wT
 | ret=>rw[he]at bP;subst bP;exact wT
theorem XY{l:Nat}{H ab:au}(U:Ca l H=some ab):∃r,eZ H.ed l=some r/\r.st=.ready/\wz l .busy H=some ab:=by
 unfold Ca at U;split at U;rename_i r aD;split at U;rename_i al;refine⟨r,aD,?_,U⟩;cases h:r.st with
 | ready=>rfl
 | busy=>rw[h]at al;cases al
 | over e=>rw[h]at al;cases al
 grind
 grind
theorem XZ{l:Nat}{args:List Value}{H:au}{a1:el}(U:xI P bo l args H=some a1):
  ∃r b3 cJ dL jr,(eZ H.ed l=some r/\nA r=false)/\args.length=r.bw.length/\(dN P false r.c9).f bo (wu r.T r.bw args) H=some b3/\b3.c6=.normal/\Ca l b3.H=some cJ/\(dN P false r.body).f bo b3.T cJ=some dL/\wz l (Ep dL.c6) dL.H=some jr/\a1=⟨.ret,[.bool (Ah dL.c6)],jr⟩:=by
 unfold xI at U;split at U
 case h_2=>cases U
 case h_1 r aD=>
 split at U
 case h_2=>cases U
 case h_1 hlen=>
 obtain⟨b3,h1,h2,h3⟩:=XO U;split at h3
 case h_2=>cases h3
 case h_1 cJ ak=>
 unfold GJ at h3;split at h3
 case h_2=>cases h3
 case h_1 e Qb jr amM=>
 split at h3
 case h_2=>cases h3
 case h_1 vy hm=>
 cases h3;rw[hB,hB,Bool.and_eq_true]at hlen
 grind[eq_of_beq_eq_true]
theorem X0{σ:c8}:∀(bw:List Tmp) (T:List Value) (tmps:Array Value) (args:List Value) (gp:List Value),bL σ T tmps.toList->bL σ args gp->
  bL σ (wu T bw args) ((bw.zip gp).foldl (fun tmps (x:Tmp×Value)=>tmps.setIfInBounds x.1 x.2) tmps).toList
 | [],T,tmps,args,gp,bk,_=>by cases args<;>exact bk
 | p::bw,T,tmps,[],gp,bk,bn=>by rw[bn.rE];exact bk
 | p::bw,T,tmps,v::vs,gp,bk,bn=>by obtain⟨aQ,dY,rfl,hv,U⟩:=bn.nF;show bL σ (wu (hs T p v) bw vs) _;rw[zip_cons_cons,foldl_cons];refine X0 bw _ _ vs dY ?_ U;rw[pJ,Array.toList_setIfInBounds];exact bk.set p hv
theorem amN(dW:cz P)(bI:iP P bo){l:Nat}{args:List Value}{H ab:au}{c6:nz}{v:Value}(U:xI P bo l args H=some ⟨c6,[v],ab⟩){σ:c8}{h:Nat->Option Obj}{w:World}{gp:Array Value}{c o s:Nat}(r:Option Nat)(k:hK P B σ h H w)(cW:gN σ H.next ab.next)(hv:bL σ args gp.toList)(eo:σ l=some (c,o,s)):
  ∃fn tmps c9 body,(Instr.yield c gp).run P w=.ok (.round c fn tmps c9 body) w/\RoundIn (ew r) 0 P c fn tmps c9 body w (fun e aW=>∃aQ τ aT,e=.returned aQ/\cq τ v aQ/\fW B σ h H w τ aT ab aW):=by
 obtain⟨mO,b3,cJ,dL,jr,aD,hlen,h1,G6,ak,h2,hm,bM⟩:=XZ U;obtain⟨eX,O8,Hk⟩:c6=.ret/\v=.bool (Ah dL.c6)/\ab=jr:=by simp_all
 subst eX O8;rw[Hk]at cW⊢;clear bM;obtain⟨_,bV,dK,cl,L,bP,q2,cS,eI⟩:=k.KE aD.1 aD.2;rw[eo]at bP;cases bP;have fc:gp.size=L.params.size:=by
  have a7:=hv.length;have bt:=congrArg List.length eI.bw
  simp_all
 obtain⟨amO,X1,mj,rQ⟩:=XY ak;have fw:=mi bI false _ _ _ _ k.dc h1;have dV:=KG rQ;have qK:=mi bI false _ _ _ _ (dV.wf (fw.wf k.dc)) h2;have ue:=KG hm;have KP:jr.next=dL.H.next:=by obtain⟨_,_,_,_,e⟩:=KF hm;rw[e]
 have X2:cJ.next=b3.H.next:=by obtain⟨_,_,_,_,e⟩:=KF rQ;rw[e]
 refine⟨_,_,_,_,run_yield cS fc,roundIn_of_wpIn trivial ?_⟩;rw[eI.c9,eI.body];have bk:bL σ (wu mO.T mO.bw args) ((L.params.zip gp).foldl (fun tmps (x:Tmp×Value)=>tmps.setIfInBounds x.1 x.2) L.tmps).toList:=by rw[<- Array.foldl_toList,Array.toList_zip,eI.bw];exact X0 _ _ _ _ _ eI.T hv
 refine wpIn_mono (Hj dW bI false mO.c9 _ _ _ h1 σ h w _ (some c) (fun h=>by cases h) k (cW.left (by rw[KP,<- X2];exact qK.dO |> Nat.le_trans (Nat.le_refl _))) bk) ?_;rintro e cU dT ⟨dx,KJ,τ,h3,bp,cO,eQ,c1⟩;rw[G6]at dx;subst dx;have dZ:=k.next c1;have amP:gN τ b3.H.next jr.next:=cW.right c1.hD;have amQ:gN σ H.next b3.H.next:=cW.left (by rw[KP,<- X2];exact qK.dO);obtain⟨aFo,X3,a7,bt,ei,h6⟩:=XL dZ rQ (c1.hD.mono _ _ eo);rw[X1]at a7;cases a7;have amR:X3.state=.ready:=by have:=ei.st;rw[mj]at this;exact this.1
 obtain⟨aG,AD⟩:=h6 .busy X3.pending rfl;refine⟨_,run_beginRound bt amR,?_⟩;have gd:=dZ.next AD;have yQ:gN τ cJ.next jr.next:=by simp_all
 have aFp:gN τ b3.H.next cJ.next:=amP.left (by rw[KP];exact qK.dO);refine wpIn_mono (Hj dW bI false mO.body _ _ _ h2 τ aG _ cU (some c) (fun h=>by cases h) gd (yQ.left (by omega)) eQ) ?_;rintro e cR fb ⟨r1,XS,jB,a6,r2,y8,r3,ti⟩;have mg:=gd.next ti;have fJ:=ti.hD.mono _ _ (c1.hD.mono _ _ eo);obtain⟨lY,dE,gY,gZ,f3,f4⟩:=XL mg hm fJ;have dy:∀(CF:Option Code) (Ay:LoopState),Pp (Ep dL.c6) Ay CF->Ay=(if CF.isNone then .ready else .done)->(CF.isNone=Ah dL.c6)->
   ∃v aW,(Instr.endRound c CF).run P fb=.ok v aW/\(∃aQ τ aT,Ending.returned v=.returned aQ/\cq τ (.bool (Ah dL.c6)) aQ/\fW B σ h H w τ aT jr aW):=by
  intro CF Ay ev Hh bm;obtain⟨bq,amS⟩:=f4 Ay CF ev;refine⟨_,_,run_endRound CF gZ,_,jB,bq,rfl,by rw[bm];exact bL.bool _ .nil,?_⟩;rw[<- Hh];have cU:fW B σ h H w jB a6 dL.H fb:=(c1.trans k amQ AD).trans k (cW.left (by rw[KP];exact qK.dO)) ti;exact cU.trans k (cW.left (by omega)) amS
 cases he:dL.c6 with
 | normal=>rw[he]at r1 dy;subst r1;exact dy none .ready ⟨rfl,rfl⟩ rfl rfl
 | ret=>rw[he]at r1 dy;subst r1;exact dy (some .ret) .done ⟨rfl,rfl⟩ rfl rfl
 | exit id=>rw[he]at r1 dy;subst r1;exact dy (some (.exit id)) .done ⟨rfl,rfl⟩ rfl rfl
theorem wU(dW:cz P)(bI:iP P bo):iP P (step P bo):=by
 refine⟨?_,?_,?_,?_⟩;intro t a1 U hf;cases t with
 | loop dv c T H=>
  have U:nE ((dN P dv c).f bo T H) (fun T H=>bo (.loop dv c T H))=some a1:=U;obtain⟨b3,h1,h2⟩:=th U;have m:=mi bI dv c _ _ _ hf h1;rcases h2 with⟨_,h2⟩|⟨_,rfl⟩
  exact m.trans (bI.jc _ _ h2 (m.wf hf));exact m
 | call f args H=>have U:(vf P f).f bo args H=some a1:=U;obtain⟨fn,c,b3,ej,vu,ak,aB,ao,sw,rfl⟩:=Qa U;exact mi bI true c _ H b3 hf aB
 | round l args H=>have U:xI P bo l args H=some a1:=U;obtain⟨mO,b3,cJ,dL,jr,aD,hlen,h1,G6,ak,h2,hm,rfl⟩:=XZ U;obtain⟨amO,X1,mj,rQ⟩:=XY ak;have fw:=mi bI false _ _ _ _ hf h1;have dV:=KG rQ;have qK:=mi bI false _ _ _ _ (dV.wf (fw.wf hf)) h2;exact((fw.trans dV).trans qK).trans (KG hm)
 intro f args H c6 v ab U B σ h w gp k cW hv;exact amK dW bI U k cW hv;intro l args H c6 v ab U B σ h w gp c o s r k cW hv eo;exact amN dW bI U r k cW hv eo;obtain⟨n,aU⟩:=bI.loop;refine⟨n+1,?_⟩;intro dv c T H a1 U B σ h w a r ht k cW bk;have U:nE ((dN P dv c).f bo T H) (fun T H=>bo (.loop dv c T H))=some a1:=U;obtain⟨b3,h1,h2⟩:=th U;have fw:=mi bI dv c _ _ _ k.dc h1;show c.wpIn (ew r) 0 P _ a w;rcases h2 with⟨ao,h2⟩|⟨ao,rfl⟩
 have dV:gJ b3.H a1.H:=bI.jc _ _ h2 (fw.wf k.dc);refine wpIn_mono (Hj dW bI dv c _ _ _ h1 σ h w a r ht k (cW.left dV.dO) bk) ?_;rintro e cH aW ⟨bP,ms,τ,aT,q2,ET,cS,eI⟩;rw[ao]at bP;subst bP;show Code.roundsIn (ew r) 0 P c (ug B σ h H w a.defers a1) n cH aW;exact XM (ug.trans k (cW.left dV.dO) eI q2 ET) n cH aW (aU dv c b3.T b3.H a1 h2 B τ aT aW cH r ht (k.next eI) (cW.right eI.hD) cS);refine wpIn_mono (Hj dW bI dv c _ _ _ h1 σ h w a r ht k cW bk) ?_;rintro e cH aW q;have bP:=q.1;cases he:a1.c6 with
 | normal=>simp_all
 | exit id=>rw[he]at bP;subst bP;exact q
 | ret=>rw[he]at bP;subst bP;exact q
end
end Go.Ab
namespace Go.Ab
open Go
noncomputable def pQ(n:Nat):au:=⟨Nat.rec (motive:=fun _=>Tr ax) .nil (fun k t=>t.set k none) n,n,0,[]⟩
noncomputable def KQ (P:Program):Bool:=kh (fun fn=>not (fn.name== "runtime.NumGoroutine")) P.funcs.toList&&P.follows .mixedOrders
theorem X4{P:Program}(h:KQ P=true):cz P:=by
 unfold KQ at h;rw[Bool.and_eq_true,kH,all_eq_true]at h;refine⟨fun f fn hf he=>?_,h.2⟩
 grind
theorem X5:∀(n i:Nat),(pQ n).get i=none
 | 0,i=>rfl
 | n+1,i=>by
  cases h:(pQ (n+1)).get i with
  | none=>rfl
  | some b=>
   have h:((pQ n).t.set n none).get i=some b:=h;rcases Tr.Er _ _ _ _ _ h with⟨_,h1⟩|⟨_,h1⟩
   cases h1;have h2:(pQ n).get i=some b:=h1;rw[X5 n i]at h2;cases h2
abbrev n9(w:World):h7:=⟨fun c=>w.heap[c]?,w.heap.size⟩
section
open Go.ChangeShapes Go.WideShapes Go.ChangeAt Go.RowKit
end
end Go.Ab
namespace Go.Ab
open Go
def CG:Value->Bool
 | .bool _=>true
 | .int _ _=>true
 | .string _=>true
 | .nilFunc=>true
 | .nilIface=>true
 | _=>false
def AE:Value->Bool
 | .agg aq=>aq.toList.all CG
 | v=>CG v
def X6:Value->Bool
 | .tuple vs=>vs.toList.all AE
 | v=>AE v
theorem bL.CG{σ:c8}:∀ {xs bh:List Value},bL σ xs bh->xs.all CG=true->bh=xs
 | [],bh,h,_=>h.rE
 | x::xs,bh,h,hf=>by rw[all_cons,Bool.and_eq_true]at hf;obtain⟨y,r,rfl,h1,h2⟩:=h.nF;rw[h2.CG hf.2];have hf:=hf.1;cases x<;>first|(cases hf;done)|(cases h1;rfl)
theorem X7{σ:c8}:∀ {xs:List Value},xs.all Ab.CG=true->bL σ xs xs
 | [],_=>.nil
 | x::xs,hf=>by
  rw[all_cons,Bool.and_eq_true]at hf;have r:=X7 (σ:=σ) hf.2;have hf:=hf.1;cases x<;>first|(cases hf;done)|skip
  ·exact .bool _ r
  ·exact .int _ _ r
  ·exact .string _ r
  ·exact .nilFunc r
  ·exact .nilIface r
theorem bL.AE{σ:c8}:∀ {xs bh:List Value},bL σ xs bh->xs.all Ab.AE=true->bh=xs
 | [],bh,h,_=>h.rE
 | x::xs,bh,h,hf=>by
  rw[all_cons,Bool.and_eq_true]at hf;obtain⟨y,r,rfl,h1,h2⟩:=h.nF;rw[h2.AE hf.2];have hf:=hf.1;cases x<;>first|(cases hf;done)|skip
  case agg aq _=>
   obtain⟨bR,amT,e⟩:∃bR:Array Value,bL σ aq.toList bR.toList/\y=.agg bR:=by cases h1;simp_all
   rw[e,show bR=aq from Array.ext' (bL.CG amT hf)]
  all_goals (cases h1;rfl)
theorem Qc{σ:c8}:∀ {xs:List Value},xs.all Ab.AE=true->bL σ xs xs
 | [],_=>.nil
 | x::xs,hf=>by
  rw[all_cons,Bool.and_eq_true]at hf;have r:=Qc (σ:=σ) hf.2;have hf:=hf.1;cases x<;>first|(cases hf;done)|skip
  case agg aq _=>exact .agg _ _ (X7 hf) r
  ·exact .bool _ r
  ·exact .int _ _ r
  ·exact .string _ r
  ·exact .nilFunc r
  ·exact .nilIface r
theorem amU{σ:c8}{x:Value}(hf:Ab.X6 x=true):cq σ x x:=by
 cases x<;>first|(cases hf;done)|skip
 case tuple aq=>exact .tuple _ _ (Qc hf) .nil
 all_goals exact Qc (by rw[all_cons,Bool.and_eq_true];exact⟨hf,rfl⟩)
class eA where
 lG:FuncId->List Value->au->Option Value
 /-- aFq body, VT amV the oJ (a function VT defers) -/
 pd:FuncId->Option Code
@[reducible] noncomputable def aFr (g:FuncId):eA:=⟨fun f args _=>cond (Nat.beq f g&&Nat.beq (gi args) 0) (some (.bool true)) none,fun _=>none⟩
noncomputable def sB(P:Program)(f:FuncId)(c:Code)(self:hQ)(args:List Value)(H:au):Option el:=match P.funcs.toList[f]? with
 | some fn=>cond (Nat.ble (gi args) (fn.params.size+fn.nfree)) (wA P fn.results.toList ((dN P true c).f self (iC args (gv (fn.ntmps-gi args) [undef])) H)) none
 | none=>none
noncomputable def EU[eA](P:Program)(self:hQ)(t:B3):Option el:=match t with
 | .call f args H=>match eA.lG f args H with
  | some v=>some ⟨.ret,[v],H⟩
  | none=>match eA.pd f with
   | some c=>sB P f c self args H
   | none=>step P self (.call f args H)
 | t=>step P self t
noncomputable def e7[eA](P:Program)(n:Nat):hQ:=Nat.rec (motive:=fun _=>hQ) (fun _=>none) (fun _ bg t=>EU P bg t) n
def wV[h7](P:Program)(f:FuncId)(args:List Value)(H:au)(v:Value):Prop:=
 ∀(B:Nat) (σ:c8) (h:Nat->Option Obj) (w:World) (gp:Array Value),hK P B σ h H w->bL σ args gp.toList->
  (∃fn c,P.funcs[f]?=some fn/\fn.body=some c)/\CallsIn (ew none) 0 P f gp w (fun e aW=>∃aQ,e=.returned aQ/\cq σ v aQ/\RowKit.Below w.heap.size w aW)
def EV[h7][eA](P:Program)(f:FuncId)(c:Code):Prop:=
 ∀n,(∀m,m<=n->iP P (e7 P m))->∀args H c6 v ab,sB P f c (e7 P n) args H=some ⟨c6,[v],ab⟩->∀(B:Nat) (σ:c8) (h:Nat->Option Obj) (w:World) (gp:Array Value),hK P B σ h H w->gN σ H.next ab.next->bL σ args gp.toList->
  (∃fn c,P.funcs[f]?=some fn/\fn.body=some c)/\CallsIn (ew none) 0 P f gp w (fun e aW=>∃aQ τ aT,e=.returned aQ/\cq τ v aQ/\fW B σ h H w τ aT ab aW)
structure Hl [h7] [eA] (P:Program):Prop where
 lG:∀f args H v,eA.lG f args H=some v->wV P f args H v
 pd:∀f c,eA.pd f=some c->EV P f c
section
variable{P:Program}[h7][eA]
omit [h7] [eA] in
theorem lW.below{σ:c8}{B:Nat}{h:Nat->Option Obj}{w aW:World}(al:lW σ B h w)(ak:RowKit.Below w.heap.size w aW):lW σ B h aW:=by
 refine⟨fun id b an=>?_,al.own,al.lU⟩;have bM:=al.ga id b an;have ah:=fun c o s (aB:σ id=some (c,o,s))=>(bM.e0 aB).2
 cases b with
 | cells x=>obtain⟨c,o,s,dD,de,eC,h1,h2,h3⟩:=bM;exact⟨c,o,s,dD,de,eC,h1,by rw[ak.block c (ah _ _ _ h1)];exact h2,h3⟩
 | loop x=>obtain⟨c,o,s,L,h1,h2,h3⟩:=bM;exact⟨c,o,s,L,h1,by rw[ak.block c (ah _ _ _ h1)];exact h2,h3⟩
 | n8=>obtain⟨c,o,s,h1,h2⟩:=bM;exact⟨c,o,s,h1,by rw[ak.block c (ah _ _ _ h1)];exact h2⟩
theorem Qd{bo:hQ}{f:FuncId}{c:Code}{args:List Value}{H:au}{a1:el}(U:sB P f c bo args H=some a1):
  ∃fn b3 v,P.funcs[f]?=some fn/\(dN P true c).f bo (args++List.replicate (fn.ntmps-args.length) undef) H=some b3/\(∀id,b3.c6≠.exit id)/\Ag P fn.results.toList b3.T b3.H=some v/\a1=⟨.ret,[v],b3.H⟩/\args.length<=fn.params.size+fn.nfree:=by
 unfold sB at U;split at U
 ·rename_i fn hf;have vu:P.funcs[f]?=some fn:=by simp_all
  cases j7:Nat.ble (gi args) (fn.params.size+fn.nfree)with
  | false=>simp_all
  | true=>
  rw[j7]at U;have U:wA P fn.results.toList ((dN P true c).f bo (iC args (gv (fn.ntmps-gi args) [undef])) H)=some a1:=U;unfold wA at U;split at U
  ·rename_i e T bB aB;split at U
   ·cases U
   ·rename_i ao;split at U
    ·simp_all[hB,jm,Az]
    grind
  grind
 grind
theorem amW(dW:cz P)(bM:Hl P){n:Nat}(hA:∀m,m<=n->iP P (e7 P m)):iP P (EU P (e7 P n)):=by
 have bI:=hA n (Nat.le_refl _);have s:=wU dW bI;refine⟨?_,?_,fun l args H c6 v ab U=>s.round l args H c6 v ab U,?_⟩;intro t a1 U hf;cases t with
 | loop dv c T H=>exact s.jc (.loop dv c T H) a1 U hf
 | round l args H=>exact s.jc (.round l args H) a1 U hf
 | call f args H=>have U:(match eA.lG f args H with|some v=>some ⟨.ret,[v],H⟩|none=>match eA.pd f with|some c=>sB P f c (e7 P n) args H|none=>step P (e7 P n) (.call f args H))=some a1:=U;split at U;cases U;exact gJ.refl H;split at U;obtain⟨fn,b3,v,_,aB,_,_,rfl,_⟩:=Qd U;show gJ H b3.H;exact mi bI true _ _ _ b3 hf aB;exact s.jc (.call f args H) a1 U hf
 intro f args H c6 v ab U B σ h w gp k cW hv;have U:(match eA.lG f args H with|some v=>some ⟨.ret,[v],H⟩|none=>match eA.pd f with|some c=>sB P f c (e7 P n) args H|none=>step P (e7 P n) (.call f args H))=some ⟨c6,[v],ab⟩:=U;split at U;rename_i v0 an;cases U;obtain⟨h1,h2⟩:=bM.lG f args _ _ an B σ h w gp k hv;refine⟨h1,CallsIn.mono h2 ?_⟩;rintro e aW ⟨aQ,rfl,jT,ak⟩;refine⟨_,σ,h,rfl,jT,⟨k.gb.below ak,Nat.le_refl _,fun _ _=>rfl,fun _ _ h=>h,ak.os,ak.tape,ak.output,ak.size,fun c aB _=>ak.block c aB,fun _ h _=>h⟩,k.sub,fun id b ak=>by rwa [EG]at ak,gJ.refl H⟩;split at U;rename_i c aB;exact bM.pd f c aB n hA args H c6 v ab U B σ h w gp k cW hv;exact s.call f args H c6 v ab U B σ h w gp k cW hv;exact s.loop
theorem X8(dW:cz P)(bM:Hl P):∀n m,m<=n->iP P (e7 P m)
 | 0,m,hm=>by
  obtain rfl:m=0:=by omega
  exact⟨fun _ _ h=>(by cases h),fun _ _ _ _ _ _ h=>(by cases h),fun _ _ _ _ _ _ h=>(by cases h),0,fun _ _ _ _ _ h=>(by cases h)⟩
 | n+1,m,hm=>by
  have bg:=X8 dW bM n;by_cases h:m<=n;exact bg m h;obtain rfl:m=n+1:=by omega
  exact amW dW bM bg
theorem amX(dW:cz P)(bM:Hl P)(n:Nat):iP P (e7 P n):=X8 dW bM n n (Nat.le_refl _)
end
section
variable{P:Program}[h7]
def Hm[h7](P:Program)(l:List (FuncId×Value)):Prop:=∀p∈l,∀H,wV P p.1 [] H p.2
theorem Hm.nil:Hm P []:=fun _ h=>(by cases h)
theorem Hm.cons{f:FuncId}{v:Value}{l:List (FuncId×Value)}(h:∀H,wV P f [] H v)(aD:Hm P l):Hm P ((f,v)::l):=by
 intro p bJ;rcases mem_cons.1 bJ with rfl|bJ
 exact h;exact aD p bJ
end
end Go.Ab
