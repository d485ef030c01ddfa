/- texts of the nF, e5 behind the l0 -/
import Derived.OrdersIn
import Derived.RangeFuncLeaves
import Derived.LoopNIn
import Derived.RangeFuncRecord
import Derived.Below
import Derived.KernelRfl
import Derived.WalkKit
import Derived.ProofKit
import Derived.OpenShut
import Derived.Test.YtifflnhooaophaaGreatDoorAbA
set_option linter.unusedVariables false
set_option linter.unusedSimpArgs false
set_option linter.unusedSectionVars false
set_option maxHeartbeats 2000000
open List Nat
namespace Go.Ab
open Go
section
variable{P:Program}{σ:cO}{B:Nat}{h:Nat->Option ay}{H aa:ar}{w:World}
def yZ(P:Program)(σ:cO):Prop:=∀g,g<P.globals.size->∃s,σ g=some (g,0,s)
theorem u9{T:List Value}{a:Act}(bd:bH σ T a.tmps.toList)(er:yZ P σ)(x:Operand)(al:uV P x=true):ch σ ((dT x).g T) (a.eval x):=by
 cases x with
 | tmp t=>
  show ch σ (b4 T t) (a.tmps.getD t undef);rw[oR];have:a.tmps.getD t undef=a.tmps.toList.getD t undef:=by simp
  rw[this];exact bd.getD t
 | const v=>exact u2 al
 | global g=>simp only[uV,p7,decide_eq_true_eq]at al;obtain⟨s,aw⟩:=er g al;exact .ai g 0 g 0 s aw .nil
 | func f=>exact .func f _ _ _ _ .nil .nil .nil
theorem CV(l:List Operand)(T:List Value):j8 l T=l.map fun x=>(dT x).g T:=by
 induction l with
 | nil=>rfl
 | cons x r a7=>simp_all[j8]
theorem Is{T:List Value}{a:Act}(bd:bH σ T a.tmps.toList)(er:yZ P σ)(l:List Operand)(aE:∀x∈l,uV P x=true):bH σ (j8 l T) (l.map a.eval):=by
 induction l with
 | nil=>exact .nil
 | cons x r a7=>exact(u9 bd er x (aE x (by simp))).cons (a7 fun y a8=>aE y (by simp[a8]))
def AU(P:Program)(B:Nat)(s:Sem Next)(w:World)(σ:cO)(h:Nat->Option ay)(H:ar)(v:Value)(aa:ar):Prop:=
 ∃r aH aV τ,s.run P w=.ok r aV/\(r=.value aH\/(r=.skip/\aH=undef))/\ch τ v aH/\lb B σ h H.next w τ (iW h H aa) aa.next aV
theorem gy.next{s:Sem Value}{v:Value}(aO:gy P B s w σ h H v aa):AU P B (s >>= fun x=>Pure.pure (Next.value x)) w σ h H v aa:=by obtain⟨aH,aV,τ,h1,h2,aB⟩:=aO;exact⟨.value aH,aH,aV,τ,by simp_all,.inl rfl,h2,aB⟩
theorem mS{x:Option Value}{v:Value}(U:fT H x=some (v,aa)):aa=H/\x=some v:=by
 cases x with
 | none=>cases U
 | some u=>cases U;simp_all
theorem Ug(hy:Array (Nat×Operand))(ρ:Operand->Value):(hy.map fun(i,x)=>(i,ρ x))=(hy.toList.map fun p=>(p.1,ρ p.2)).toArray:=by grind
theorem Uh{T:List Value}{a:Act}(bd:bH σ T a.tmps.toList)(er:yZ P σ)(l:List (Nat×Operand))(aE:∀p∈l,uV P p.2=true):
  (tJ l T).map (·.1)=(l.map fun p=>(p.1,a.eval p.2)).map (·.1)/\bH σ ((tJ l T).map (·.2)) ((l.map fun p=>(p.1,a.eval p.2)).map (·.2)):=by
 obtain⟨h1,h2⟩:=ahY l T;refine⟨by rw[h1];simp,?_⟩;rw[h2];clear h1 h2;induction l with
 | nil=>exact .nil
 | cons p r a7=>exact(u9 bd er p.2 (aE p (by simp))).cons (a7 fun y a8=>aE y (by simp[a8]))
theorem M0{T:List Value}{a:Act}(bd:bH σ T a.tmps.toList)(er:yZ P σ)(x:Option Operand)(al:∀y,x=some y->uV P y=true):xq σ (Aq x T) (x.map a.eval):=by
 cases x with
 | none=>exact .none
 | some y=>exact .some (u9 bd er y (al y rfl))
theorem Na{g:Value->Value->ar->R}{l:List Value}{r:Value×ar}(U:lP g l H=some r):∃x y,l=[x,y]:=by
 unfold lP at U
 grind
theorem Nb{g:Value->ar->R}{l:List Value}{r:Value×ar}(U:e5 g l H=some r):∃x,l=[x]:=by
 unfold e5 at U
 grind
theorem Nc{t:TypeId}{x v:Value}(U:(HJ P t).f x H=some (v,aa)):aa=H/\∃e size,P.underlying t=some (.slice e)/\gD P e=some size/\∃a n c,x=.slice a n c/\((a=none/\n=0/\c=0/\v=.int .i64 0)\/(a≠none/\c=2*size+1/\v=.int .i64 n)):=by
 unfold HJ at U;split at U;rename_i e bc;split at U;rename_i size aw;simp only[TC]at U;split at U;rename_i a n c;split at U;split at U;rename_i an;rw[Bool.and_eq_true]at an
 grind[eq_of_beq_eq_true]
 grind
 grind[eq_of_beq_eq_true]
 grind
 grind
 grind
theorem aiH{b:Builtin}{argTypes:Array TypeId}{cW:TypeId}{Ui:Array Bool}{l:List Value}{aF:Array Value}{v:Value}(aw:jS σ B h w)(dP:B<=w.heap.size)(eW:∀i,H.next<=i->i<aa.next->σ i=none)
  (jq:(b=.append\/b=.copy\/b=.clear)->∀x∈l,tT h H x) (aE:bH σ l aF.toList) (U:(tH P b argTypes.toList).f l H=some (v,aa)):AU P B (builtin b argTypes cW Ui aF) w σ h H v aa:=by
 have Nd:∀x y,l=[x,y]->∃bK eG,aF=#[bK,eG]/\ch σ x bK/\ch σ y eG:=by
  intro x y e;subst e;obtain⟨bK,r,bb,al,gg⟩:=aE.mP;obtain⟨eG,r2,bt,a8,ie⟩:=gg.mP;have dZ:=ie.qI
  grind
 have Nf:∀x,l=[x]->∃bK,aF=#[bK]/\ch σ x bK:=by
  intro x e;subst e;obtain⟨bK,r,bb,al,gg⟩:=aE.mP;have dZ:=gg.qI
  grind
 unfold tH at U;cases b<;>simp only at U<;>first|(cases U;done)|skip
 case append=>
  unfold HL at U;split at U
  case h_2=>cases U
  case h_1 kh ki mm=>
  obtain rfl:argTypes=#[kh,ki]:=Array.ext' mm;split at U
  case h_1 u6=>
   have ht:∃x y,l=[x,y]:=by
    unfold Cs at U;split at U
    ·split at U
     ·split at U
      ·split at U
       ·exact Na U
       grind
      grind
     grind
    grind
   obtain⟨x,y,rfl⟩:=ht;obtain⟨bK,eG,rfl,al,a8⟩:=Nd x y rfl;exact(aid aw dP eW u6 al a8 U).next
  case h_2=>
  have ht:∃x y,l=[x,y]:=by
   unfold Cr at U;simp only at U;split at U
   ·split at U
    ·split at U
     ·split at U
      ·exact Na U
      grind
     grind
    grind
   grind
  obtain⟨x,y,rfl⟩:=ht;obtain⟨bK,eG,rfl,al,a8⟩:=Nd x y rfl;exact(aif aw dP eW (jq (by simp) x (by simp)) (jq (by simp) y (by simp)) al a8 U).next
 case clear=>
  split at U
  ·rename_i t cR mm;obtain⟨x,rfl⟩:=Nb U;obtain⟨bK,rfl,al⟩:=Nf x rfl;have aO:=aip (cW:=cW) aw (jq (by simp) x (by simp)) al U;have:Builtin.clear_ argTypes cW #[bK]=Builtin.clear_ #[t] cW #[bK]:=by
    have e:argTypes[0]?=some t:=by
     have:argTypes.toList[0]?=some t:=by grind
     grind
    simp_all[Builtin.clear_]
   show AU P B (do pure (Next.value (<- Builtin.clear_ argTypes cW #[bK]))) w σ h H v aa;rw[this];exact aO.next
  grind
 case copy=>
  have ht:∃r8,argTypes[0]?=some r8/\(∃x y,l=[x,y])/\(yI P [r8,r8]).f l H=some (v,aa):=by
   unfold yI at U;split at U
   ·rename_i r8 cR mm;refine⟨r8,?_,?_,?_⟩
    ·have:argTypes.toList[0]?=some r8:=by grind
     grind
    ·split at U
     ·split at U
      ·split at U
       ·exact Na U
       grind
      grind
     grind
    simp_all[yI]
   grind
  obtain⟨r8,aO,⟨x,y,rfl⟩,gg⟩:=ht;obtain⟨bK,eG,rfl,al,a8⟩:=Nd x y rfl;have Ng:=aim (cW:=cW) aw (jq (by simp) x (by simp)) (jq (by simp) y (by simp)) al a8 gg;have:Builtin.copy_ argTypes cW #[bK,eG]=Builtin.copy_ #[r8,r8] cW #[bK,eG]:=by grind[Builtin.copy_]
  show AU P B (do pure (Next.value (<- Builtin.copy_ argTypes cW #[bK,eG]))) w σ h H v aa;rw[this];exact Ng.next
 case len=>
  split at U
  ·rename_i t cR mm;obtain⟨x,rfl⟩:=Nb U;obtain⟨bK,rfl,al⟩:=Nf x rfl;obtain⟨rfl,aO⟩:=aiq (P:=P) (cW:=cW) (w:=w) al U;have:Builtin.len_ argTypes cW #[bK]=Builtin.len_ #[t] cW #[bK]:=by
    have e:argTypes[0]?=some t:=by
     have:argTypes.toList[0]?=some t:=by grind
     grind
    simp_all[Builtin.len_]
   show AU P B (do pure (Next.value (<- Builtin.len_ argTypes cW #[bK]))) w σ h aa v aa;rw[this];exact(gy.pure aw aO).next
  grind
 case cap=>
  split at U
  ·rename_i t cR mm;obtain⟨x,rfl⟩:=Nb U;obtain⟨bK,rfl,al⟩:=Nf x rfl;have U:(HJ P t).f x H=some (v,aa):=U;obtain⟨rfl,e,size,bc,fj,a,n,c,rfl,aD⟩:=Nc U;have ic:argTypes[0]?=some t:=by
    have:argTypes.toList[0]?=some t:=by grind
    grind
   have aO:∃aH,(Builtin.cap_ argTypes cW #[bK]).run P w=.ok aH w/\ch σ v aH:=by
    unfold Builtin.cap_;rw[ic];rcases aD with⟨rfl,rfl,rfl,rfl⟩|⟨bp,rfl,rfl⟩
    ·cases al
     simp_all[run_underlying,goInt,ch.int]
    ·generalize AV:2*size+1=cc at al;cases al
     case kP=>omega
     case n7=>simp_all[run_underlying,goInt,ch.int]
     omega
   show AU P B (do pure (Next.value (<- Builtin.cap_ argTypes cW #[bK]))) w σ h aa v aa;exact(gy.pure aw aO).next
  grind
 case max=>
  obtain⟨rfl,hm⟩:=mS U;unfold po at hm;cases l with
  | nil=>cases hm
  | cons x r=>
   simp only at hm;cases x<;>simp only at hm<;>first|(cases hm;done)|skip
   rename_i k n;obtain⟨bK,dx,bb,al,gg⟩:=aE.mP;rw[al.n8]at bb;obtain⟨h1,h2⟩:=Ua (P:=P) (w:=w) r dx n k v gg hm;refine(gy.pure aw ⟨v,?_,h2⟩).next
   simp_all[Builtin.max_]
 case min=>
  obtain⟨rfl,hm⟩:=mS U;unfold pn at hm;cases l with
  | nil=>cases hm
  | cons x r=>
   simp only at hm;cases x<;>simp only at hm<;>first|(cases hm;done)|skip
   rename_i k n;obtain⟨bK,dx,bb,al,gg⟩:=aE.mP;rw[al.n8]at bb;obtain⟨h1,h2⟩:=T9 (P:=P) (w:=w) r dx n k v gg hm;refine(gy.pure aw ⟨v,?_,h2⟩).next
   simp_all[Builtin.min_]
theorem aiI(o:Oper){T:List Value}{a:Act}{v:Value}(aw:jS σ B h w)(dP:B<=w.heap.size)(er:yZ P σ)(bd:bH σ T a.tmps.toList)(eW:∀i,H.next<=i->i<aa.next->σ i=none)
  (eL:jM (uV P) o.op.operands.toList=true) (jq:(iu P o.op=1\/iu P o.op=4)->∀x∈o.op.operands.toList,tT h H ((dT x).g T)) (U:(jc P o.op).f T H=some (v,aa)):AU P B (execOp a.eval o) w σ h H v aa:=by
 rw[j0,all_eq_true]at eL;obtain⟨dst,op,type,aZ,after,guard⟩:=o;simp only at eL jq U;have eH:∀x,x∈op.operands.toList->ch σ ((dT x).g T) (a.eval x):=fun x al=>u9 bd er x (eL x al)
 cases op<;>simp only[jc]at U<;>first|(cases U;done)|skip
 case move x=>cases U;exact⟨_,a.eval x,w,σ,rfl,.inl rfl,eH x (by simp[Op.operands]),by grind[AB,lb.refl]⟩
 case assign x=>cases U;exact⟨_,a.eval x,w,σ,rfl,.inl rfl,eH x (by simp[Op.operands]),by grind[AB,lb.refl]⟩
 case pick c x y=>
  have aD:=eH c (by simp[Op.operands]);generalize (dT c).g T=aT at U aD;cases aT<;>simp only at U<;>first|(cases U;done)|skip
  rename_i t;have e:=aD.H6;cases t with
  | true=>cases U;refine⟨_,a.eval x,w,σ,?_,.inl rfl,eH x (by simp[Op.operands]),by grind[AB,lb.refl]⟩;show(asBool (a.eval c) >>= fun t=>pure (Next.value (if t then a.eval x else a.eval y))).run P w=_;rw[e];rfl
  | false=>cases U;refine⟨_,a.eval y,w,σ,?_,.inl rfl,eH y (by simp[Op.operands]),by grind[AB,lb.refl]⟩;show(asBool (a.eval c) >>= fun t=>pure (Next.value (if t then a.eval x else a.eval y))).run P w=_;rw[e];rfl
 case alloc t=>
  cases dQ:hX P t with
  | none=>simp_all
  | some z=>
   rw[dQ]at U;obtain⟨lA,oU⟩:=s6 dQ w;refine gy.next (s:=Instr.alloc t true (.tuple #[])) ?_;have aO:=TY (P:=P) aw dP eW (cZ z) z t (u2 oU).cells U;obtain⟨aH,aV,τ,h1,h2,aB⟩:=aO;refine⟨aH,aV,τ,?_,h2,aB⟩
   simp_all[Instr.alloc]
 case box t x=>refine gy.next (s:=Instr.box t (a.eval x)) ?_;exact TY (P:=P) aw dP eW _ (a.eval x) t (eH x (by simp[Op.operands])).cells U
 case build t hy=>
  obtain⟨rfl,an⟩:=mS U;refine gy.next (s:=Instr.build t (hy.map fun(i,x)=>(i,a.eval x))) ?_;rw[Ug];obtain⟨cC,bw⟩:=Uh bd er hy.toList fun p bS=>eL p.2 (by grind[Op.operands])
  exact gy.pure aw (ah0 an cC bw w)
 case buildSlice t len hy=>
  refine gy.next (s:=Instr.buildSlice t len (hy.map fun(i,x)=>(i,a.eval x))) ?_;rw[Ug]
  grind[Uh,Op.operands,ah4]
 case load t x=>obtain⟨rfl,aO⟩:=T1 (P:=P) aw (jq (.inl rfl) x (by simp[Op.operands])) (eH x (by simp[Op.operands])) U;exact(gy.pure aw aO).next
 case store t x y=>
  cases dQ:gD P t with
  | none=>simp_all
  | some n=>
   rw[dQ]at U;obtain⟨rfl,aR,aV,h1,h2⟩:=ahW (P:=P) dQ aw (jq (.inr rfl) x (by simp[Op.operands])) (eH x (by simp[Op.operands])) (eH y (by simp[Op.operands])) U;refine⟨.skip,undef,aV,σ,?_,.inr ⟨rfl,rfl⟩,ch.undef,h2⟩;show(do Instr.storeAt t (a.eval x) (a.eval y);pure Next.skip:Sem Next).run P w=_
   simp_all
 case nilCheck x=>obtain⟨rfl,an⟩:=mS U;obtain⟨h1,h2⟩:=air (P:=P) (w:=w) an (eH x (by simp[Op.operands])) ⟨dst,.nilCheck x,type,aZ,after,guard⟩ x rfl a.eval rfl;exact⟨_,a.eval x,w,σ,h1,.inl rfl,h2,by grind[AB,lb.refl]⟩
 case binOp op t x y yt=>obtain⟨rfl,an⟩:=mS U;exact(gy.pure aw (ahS op t x y _ _ _ _ an (eH x (by simp[Op.operands])) (eH y (by simp[Op.operands])) w)).next
 case unOp op t x=>obtain⟨rfl,an⟩:=mS U;exact(gy.pure aw (ahT op _ _ an (eH x (by simp[Op.operands])) w)).next
 case convert s d x=>
  have aiJ:∀e,P.underlying s=some (.slice e)->iu P (.convert s d x)=1\/iu P (.convert s d x)=4:=by grind[Ak,iu]
  exact(aiD aw dP eW (fun⟨e,he⟩=>jq (aiJ e he) x (by simp[Op.operands])) (eH x (by simp[Op.operands])) U).next
 case makeInterface t x=>
  cases bc:P.underlying t with
  | none=>simp_all
  | some iL=>
   rw[bc]at U;have hv:v=.iface t ((dT x).g T)/\aa=H/\(match iL with|.interface _=>true|_=>false)=false:=by grind
   obtain⟨rfl,rfl,u3⟩:=hv;refine gy.next (s:=Instr.makeInterface t (a.eval x)) (gy.pure aw ⟨.iface t (a.eval x),?_,.iface t _ _ (eH x (by simp[Op.operands])) .nil⟩);cases iL<;>first|(cases u3;done)|(simp[Instr.makeInterface,run_underlying bc])
 case makeFunc fn first cap=>
  split at U
  ·rename_i f;cases U;refine gy.next (s:=Instr.makeFunc (.func f) (first.map a.eval) (cap.map a.eval)) (gy.pure aw ⟨_,rfl,?_⟩);refine .func f _ _ _ _ ?_ ?_ .nil
   ·have:=Is bd er first.toList fun y a8=>eL y (by simp_all[Op.operands])
    simp_all
   ·have:=Is bd er cap.toList fun y a8=>eL y (by simp_all[Op.operands])
    simp_all
  grind
 case makeSlice t x y=>exact(ah2 aw dP eW (eH x (by simp[Op.operands])) (eH y (by simp[Op.operands])) U).next
 case slice t x fc aq gK=>
  obtain⟨rfl,an⟩:=mS U;exact(gy.pure aw (aiv aw (fun⟨n,e,he⟩=>jq (.inl (by simp_all[iu])) x (by simp[Op.operands])) (eH x (by simp[Op.operands])) (M0 bd er fc fun y e=>eL y (by simp_all[Op.operands]))
   (M0 bd er aq fun y e=>eL y (by simp_all[Op.operands])) (M0 bd er gK fun y e=>eL y (by simp_all[Op.operands])) an)).next
 case fieldAddr s x f=>obtain⟨rfl,an⟩:=mS U;exact(gy.pure aw (aiw (eH x (by simp[Op.operands])) an w)).next
 case field t x f=>obtain⟨rfl,an⟩:=mS U;exact(gy.pure aw (aiz (eH x (by simp[Op.operands])) an w)).next
 case indexAddr t x i=>obtain⟨rfl,an⟩:=mS U;exact(gy.pure aw (aix (eH x (by simp[Op.operands])) (eH i (by simp[Op.operands])) an w)).next
 case index t x i=>obtain⟨rfl,an⟩:=mS U;exact(gy.pure aw (aiy (eH x (by simp[Op.operands])) (eH i (by simp[Op.operands])) an w)).next
 case typeAssert x t kb ok=>obtain⟨rfl,an⟩:=mS U;exact(gy.pure aw (aiA (eH x (by simp[Op.operands])) an w)).next
 case extract x i=>
  have al:=eH x (by simp[Op.operands]);generalize (dT x).g T=xv at U al;cases xv<;>simp only at U<;>first|(cases U;done)|skip
  rename_i vs;obtain⟨rfl,an⟩:=mS U;obtain⟨mQ,e,tW⟩:=al.ahK;rw[u1]at an;obtain⟨aH,bO,q2⟩:=tW.get i v an;refine gy.next (s:=Instr.extract (a.eval x) i) (gy.pure aw ⟨aH,?_,q2⟩)
  simp_all[Instr.extract]
 case call c=>
  split at U
  case h_2=>cases U
  case h_1 b an=>
  have aE:=Is bd er c.args.toList fun y a8=>eL y (by simp_all[Op.operands,Call.operands])
  have aO:=aiH (cW:=type) (Ui:=c.args.map fun|.const _=>true|_=>false) (aF:=c.args.map a.eval) aw dP eW (fun CW x al=>by grind[CV,iu,Op.operands,Call.operands]) (by simp_all) U;have e:execOp a.eval ⟨dst,.call c,type,aZ,after,guard⟩=builtin b c.argTypes type (c.args.map fun|.const _=>true|_=>false) (c.args.map a.eval):=by simp only[execOp,resolve,an];rfl
  simp_all
end
end Go.Ab
namespace Go.Ab
open Go
structure ih (H aa:ar):Prop where
 eu:H.next<=aa.next
 ck:aa.dB=H.dB
 cr:aa.dI=H.dI
 ld:∀i,i<H.dB->aa.get i=H.get i
 cV:∀i,H.get i=none->aa.get i≠none->H.next<=i/\i<aa.next
theorem ih.refl(H:ar):ih H H:=⟨Nat.le_refl _,rfl,rfl,fun _ _=>rfl,fun _ h a6=>absurd h a6⟩
theorem ih.trans{H br cB:ar}(a:ih H br)(b:ih br cB):ih H cB:=by refine⟨Nat.le_trans a.eu b.eu,b.ck.trans a.ck,b.cr.trans a.cr,fun i aq=>(b.ld i (by rw[a.ck];exact aq)).trans (a.ld i aq),fun i h h2=>?_⟩;have h1:=a.eu;have aB:=b.eu;by_cases aN:br.get i=none;have:=b.cV i aN h2;omega;have:=a.cV i h aN;omega
theorem Uj{H:ar}(ao:List Value)(hf:H.dB<=H.next):ih H ⟨H.t.set H.next (some ⟨ao,true⟩),Nat.succ H.next,H.dB,H.dI⟩:=by
 refine⟨le_succ _,rfl,rfl,fun i aq=>Tr.ly _ _ _ _ (by omega),fun i h a6=>?_⟩;by_cases aq:i=H.next
 simp_all
 exact absurd ((Tr.ly _ _ _ _ aq).trans h) a6
theorem Uk{H aa:ar}{ao:List Value}{v:Value}(hf:H.dB<=H.next)(U:xc ao H=some (v,aa)):ih H aa:=by grind[xc,ar.cL,Uj]
theorem AW{H aa:ar}{ao:List Value}{n c:Nat}{v:Value}(hf:H.dB<=H.next)(U:lO ao n c H=some (v,aa)):ih H aa:=by grind[lO,ar.cL,Uj]
theorem Nh{H aa:ar}{id off:Nat}{vs:List Value}(U:uQ H id off vs=some aa):ih H aa:=by
 rw[H0]at U;cases hg:H.get id with
 | none=>simp_all
 | some b=>
  rw[hg]at U;simp only at U;split at U;rename_i aD;cases U;simp only[Bool.and_eq_true,ar.nZ,lR,decide_eq_true_eq]at aD;refine⟨Nat.le_refl _,rfl,rfl,fun i aq=>Tr.ly _ _ _ _ (by omega),fun i h a6=>?_⟩;by_cases aq:i=id
  simp_all
  exact absurd ((Tr.ly _ _ _ _ aq).trans h) a6
  grind
theorem aiK{H:ar}{id:Nat}(hf:H.dB<=id):ih H (H.set id none):=by refine⟨Nat.le_refl _,rfl,rfl,fun i aq=>Tr.ly _ _ _ _ (by omega),fun i h a6=>?_⟩;by_cases aq:i=id;subst aq;exact absurd (Tr.yS _ _) a6;exact absurd ((Tr.ly _ _ _ _ aq).trans h) a6
theorem Ul{x v:Value}{H aa:ar}(U:vT x H=some (v,aa)):aa=H:=by
 unfold vT at U;split at U
 grind
 grind
section
variable{P:Program}{H aa:ar}
theorem aiL{size bytes n:Nat}{s v:Value}{cL:List Value}(hf:H.dB<=H.next)(U:qE size bytes s cL n H=some (v,aa)):ih H aa:=by
 unfold qE at U;split at U
 case h_2=>cases U
 case h_1 a len c=>
 split at U
 case h_1=>grind[ih.refl,AW]
 case h_2 id off ct=>
  split at U
  ·cases U
  ·split at U
   ·simp_all[ih.refl]
   ·split at U
    ·split at U
     ·grind[yH,AW]
     ·split at U
      ·unfold Am at U;split at U
       ·split at U
        ·rename_i b an aD;simp only[Bool.and_eq_true,ar.nZ,lR,decide_eq_true_eq]at aD;exact(aiK aD.1.2).trans (AW (H:=H.set id none) hf U)
        grind
       grind
      grind
    grind
theorem Ni{g:Value->Value->ar->R}{l:List Value}{v:Value}(hg:∀x y,g x y H=some (v,aa)->ih H aa)(U:lP g l H=some (v,aa)):ih H aa:=by
 unfold lP at U
 grind
theorem Nj{g:Value->ar->R}{l:List Value}{v:Value}(hg:∀x,g x H=some (v,aa)->ih H aa)(U:e5 g l H=some (v,aa)):ih H aa:=by
 unfold e5 at U
 grind
theorem aiM{b:Builtin}{cR:List TypeId}{l:List Value}{v:Value}(hf:H.dB<=H.next)(U:(tH P b cR).f l H=some (v,aa)):ih H aa:=by
 unfold tH at U;cases b<;>simp only at U<;>first|(cases U;done)|skip
 case append=>
  unfold HL at U;split at U
  case h_2=>cases U
  case h_1=>
  split at U
  case h_1=>
   unfold Cs at U;split at U
   ·split at U
    ·split at U
     ·split at U
      ·refine Ni (fun x y U=>?_) U;unfold HK at U;split at U
       ·grind[ih.refl,AW]
       grind
      grind
     grind
    grind
   grind
  case h_2=>
  unfold Cr at U;simp only at U;split at U
  ·split at U
   ·split at U
    ·split at U
     ·grind[Ni,fu,aiL]
     grind
    grind
   grind
  grind
 case clear=>
  split at U
  ·refine Nj (fun x U=>?_) U;unfold ET at U;split at U
   ·split at U
    ·simp only[yJ]at U
     grind[ih.refl,Nh]
    grind
   grind
  grind
 case copy=>
  unfold yI at U;split at U
  ·split at U
   ·split at U
    ·split at U
     ·refine Ni (fun x y U=>?_) U;unfold qF at U;split at U
      ·split at U
       ·grind[ih.refl,Nh]
       grind
      grind
     grind
    grind
   grind
  grind
 case len=>
  split at U
  ·grind[Nj,ES,ih.refl]
  grind
 case cap=>
  split at U
  ·grind[Nj,Nc,ih.refl]
  grind
 case max=>obtain⟨rfl,_⟩:=mS U;exact ih.refl _
 case min=>obtain⟨rfl,_⟩:=mS U;exact ih.refl _
theorem It{op:Op}{T:List Value}{v:Value}(hf:H.dB<=H.next)(U:(jc P op).f T H=some (v,aa)):ih H aa:=by
 cases op<;>simp only[jc]at U<;>first|(cases U;done)|(obtain⟨rfl,_⟩:=mS U;exact ih.refl _)|(cases U;exact ih.refl _)|skip
 case pick c x y=>grind[ih.refl]
 case alloc t=>grind[Uk]
 case box t x=>exact Uk hf U
 case buildSlice t len hy=>
  unfold eg at U;split at U
  ·split at U
   ·split at U
    ·split at U
     ·grind[HI,AW]
     grind
    grind
   grind
  grind
 case load t x=>
  unfold nI at U;split at U
  ·simp only[bT]at U
   grind[ih.refl]
  ·simp only[ax]at U;split at U
   ·split at U
    ·split at U
     ·obtain⟨rfl,_⟩:=mS U;exact ih.refl _
     grind
    grind
   grind
  grind
 case store t x y=>
  split at U
  ·simp only[bm]at U
   grind[Nh]
  grind
 case convert s d x=>
  unfold Ak at U;split at U
  ·grind[ih.refl]
  ·split at U
   ·grind[ih.refl]
   ·split at U
    ·simp only[n1]at U;split at U
     ·grind[ih.refl]
     grind
    grind
   grind
  ·split at U
   ·split at U
    ·simp only[Aj]at U
     grind[AW]
    grind
   ·split at U
    ·grind[Ul,ih.refl]
    grind
   grind
  grind
 case makeInterface t x=>grind[ih.refl]
 case makeFunc fn x y=>grind[ih.refl]
 case makeSlice t x y=>
  unfold qH at U;split at U
  ·split at U
   ·split at U
    ·simp only[tI]at U
     grind[AW]
    grind
   grind
  grind
 case extract x i=>split at U<;>first|(cases U;done)|(obtain⟨rfl,_⟩:=mS U;exact ih.refl _)
 grind[aiM]
end
end Go.Ab
namespace Go.Ab
open Go
def pC(l:List Nat)(H aa:ar):Prop:=∀id,aa.get id≠H.get id->id∈l\/(H.next<=id/\id<aa.next)
theorem pC.refl(l:List Nat)(H:ar):pC l H H:=fun _ h=>absurd rfl h
theorem Um{H:ar}(l:List Nat)(ao:List Value):pC l H ⟨H.t.set H.next (some ⟨ao,true⟩),Nat.succ H.next,H.dB,H.dI⟩:=fun id h=>by
 by_cases aq:id=H.next
 simp_all
 exact absurd (Tr.ly _ _ _ _ aq) h
section
variable{P:Program}{H aa:ar}
theorem Un{l:List Nat}{ao:List Value}{v:Value}(U:xc ao H=some (v,aa)):pC l H aa:=by grind[xc,ar.cL,Um]
theorem CX{l:List Nat}{ao:List Value}{n c:Nat}{v:Value}(U:lO ao n c H=some (v,aa)):pC l H aa:=by grind[lO,ar.cL,Um]
theorem Nk{l:List Nat}{id off:Nat}{vs:List Value}(eW:id∈l)(U:uQ H id off vs=some aa):pC l H aa:=by
 rw[H0]at U;split at U;split at U;cases U;intro i aq;by_cases he:i=id
 simp_all
 exact absurd (Tr.ly _ _ _ _ he) aq
 grind
 grind
theorem aiN{l:List Nat}{size bytes n:Nat}{s v:Value}{cL:List Value}(eW:∀i,CA s=some i->i∈l)(U:qE size bytes s cL n H=some (v,aa)):pC l H aa:=by
 unfold qE at U;split at U
 case h_2=>cases U
 case h_1 a len c=>
 split at U
 case h_1=>grind[pC.refl,CX]
 case h_2 id off ct=>
  split at U
  ·cases U
  ·split at U
   ·simp_all[pC.refl]
   ·split at U
    ·split at U
     ·grind[yH,CX]
     ·split at U
      ·unfold Am at U;split at U
       ·split at U
        ·simp only[lO,ar.cL,ar.set]at U;cases U;intro i aq;by_cases he:i=H.next
         ·simp_all
         ·by_cases xr:i=id
          ·subst xr;exact .inl (eW _ rfl)
          ·exact absurd ((Tr.ly _ _ _ _ he).trans (Tr.ly _ _ _ _ xr)) aq
        grind
       grind
      grind
    grind
theorem Fl{x:Value}{l:List Value}(al:x∈l):∀i,CA x=some i->i∈b9 l:=fun _ aq=>mem_filterMap.2 ⟨x,al,aq⟩
theorem Nl{g:Value->Value->ar->R}{l:List Value}{v:Value}(hg:∀x y,l=[x,y]->g x y H=some (v,aa)->pC (b9 l) H aa)(U:lP g l H=some (v,aa)):pC (b9 l) H aa:=by
 unfold lP at U
 grind
theorem aiO{b:Builtin}{cR:List TypeId}{l:List Value}{v:Value}(U:(tH P b cR).f l H=some (v,aa)):
  ((b=.append\/b=.copy\/b=.clear)/\pC (b9 l) H aa)\/aa=H:=by
 unfold tH at U;cases b<;>simp only at U<;>first|(cases U;done)|skip
 case append=>
  left;refine⟨.inl rfl,?_⟩;unfold HL at U;split at U
  case h_2=>cases U
  case h_1=>
  split at U
  case h_1=>
   unfold Cs at U;split at U
   ·split at U
    ·split at U
     ·split at U
      ·refine Nl (fun x y aE U=>?_) U;unfold HK at U;split at U
       ·grind[pC.refl,CX]
       grind
      grind
     grind
    grind
   grind
  case h_2=>
  unfold Cr at U;simp only at U;split at U
  ·split at U
   ·split at U
    ·split at U
     ·refine Nl (fun x y aE U=>?_) U;unfold fu at U;split at U
      ·split at U
       ·exact aiN (Fl (by grind)) U
       grind
      grind
     grind
    grind
   grind
  grind
 case clear=>
  left;refine⟨.inr (.inr rfl),?_⟩;split at U
  ·unfold e5 at U;simp only at U;split at U
   ·rename_i x;unfold ET at U;split at U
    ·split at U
     ·simp only[yJ]at U;split at U
      ·split at U
       ·simp_all[pC.refl]
       ·split at U
        ·simp_all[pC.refl]
        ·split at U
         ·cases U
         ·split at U
          ·rename_i aM;cases U;exact Nk (Fl (mem_cons_self ..) _ rfl) aM
          grind
      grind
     grind
    grind
   grind
  grind
 case copy=>
  left;refine⟨.inr (.inl rfl),?_⟩;unfold yI at U;split at U
  ·split at U
   ·split at U
    ·split at U
     ·refine Nl (fun x y aE U=>?_) U;unfold qF at U;split at U
      ·split at U
       ·simp only at U;split at U
        ·simp_all[pC.refl]
        ·split at U
         ·split at U
          ·cases U
          ·split at U
           ·split at U
            ·rename_i aM;cases U;exact Nk (Fl (by rw[aE];exact mem_cons_self ..) _ rfl) aM
            grind
           grind
         grind
       grind
      grind
     grind
    grind
   grind
  grind
 case len=>
  right;split at U
  ·unfold e5 at U
   grind[ES]
  grind
 case cap=>
  right;split at U
  ·unfold e5 at U
   grind[Nc]
  grind
 case max=>right;exact(mS U).1
 case min=>right;exact(mS U).1
theorem aiP{op:Op}{T:List Value}{v:Value}(U:(jc P op).f T H=some (v,aa)):
  ((iu P op=4/\pC (b9 (j8 op.operands.toList T)) H aa)\/(iu P op=2/\pC [] H aa))\/aa=H:=by
 cases op<;>simp only[jc]at U<;>first|(cases U;done)|(exact .inr (mS U).1)|(cases U;exact .inr rfl)|skip
 case pick c x y=>grind
 case alloc t=>left;right;refine⟨rfl,?_⟩;grind[Un]
 case box t x=>exact .inl (.inr ⟨rfl,Un U⟩)
 case buildSlice t len hy=>
  left;right;refine⟨rfl,?_⟩;unfold eg at U;split at U
  ·split at U
   ·split at U
    ·split at U
     ·grind[HI,CX]
     grind
    grind
   grind
  grind
 case load t x=>
  right;unfold nI at U;split at U
  ·simp only[bT]at U
   grind
  ·simp only[ax]at U;split at U
   ·split at U
    ·split at U
     ·exact(mS U).1
     grind
    grind
   grind
  grind
 case store t x y=>
  left;left;refine⟨rfl,?_⟩;split at U
  ·simp only[bm]at U;split at U
   ·rename_i hv;split at U
    ·split at U
     ·split at U
      ·split at U
       ·rename_i aM;cases U;refine Nk (Fl (x:=(dT x).g T) ?_ _ (by rw[hv];rfl)) aM
        simp_all[CV,Op.operands]
       grind
      grind
     grind
    grind
   grind
  grind
 case convert s d x=>
  unfold Ak at U;split at U
  ·grind
  ·right;split at U
   ·grind
   ·split at U
    ·simp only[n1]at U;split at U
     ·grind
     grind
    grind
   grind
  ·rename_i aO;split at U
   ·rename_i pA;left;right;refine⟨by simp_all[iu],?_⟩;split at U
    ·simp only[Aj]at U
     grind[CX]
    grind
   ·right;split at U
    ·exact Ul U
    grind
   grind
  grind
 case makeInterface t x=>grind
 case makeFunc fn x y=>grind
 case makeSlice t x y=>
  left;right;refine⟨rfl,?_⟩;unfold qH at U;split at U
  ·split at U
   ·split at U
    ·simp only[tI]at U
     grind[CX]
    grind
   grind
  grind
 case extract x i=>right;split at U<;>first|(cases U;done)|(exact(mS U).1)
 grind[aiO,iu,Op.operands,Call.operands]
theorem Uo{op:Op}{T dW:List Value}(h:∀x∈op.operands.toList,(dT x).g T=(dT x).g dW):(jc P op).f T H=(jc P op).f dW H:=by
 have vb:∀l:List Operand,(∀x∈l,(dT x).g T=(dT x).g dW)->j8 l T=j8 l dW:=fun l aE=>by simp_all[CV]
 have aCy:∀l:List (Nat×Operand),(∀p∈l,(dT p.2).g T=(dT p.2).g dW)->tJ l T=tJ l dW:=by
  intro l;induction l with
  | nil=>intro _;rfl
  | cons p r a7=>grind[tJ]
 have aCz:∀o:Option Operand,(∀x,o=some x->(dT x).g T=(dT x).g dW)->Aq o T=Aq o dW:=by
  intro o bC;cases o with
  | none=>rfl
  | some x=>show some _=some _;grind
 cases op<;>simp only[jc]
 case move x=>simp_all[Op.operands]
 case assign x=>simp_all[Op.operands]
 case pick c x y=>simp_all[Op.operands]
 case alloc t=>grind
 case box t x=>simp_all[Op.operands]
 case build t hy=>grind[Op.operands]
 case buildSlice t len hy=>grind[Op.operands]
 case load t x=>simp_all[Op.operands]
 case store t x y=>grind[Op.operands]
 case nilCheck x=>simp_all[Op.operands]
 case binOp o t x y z=>simp_all[Op.operands]
 case unOp o t x=>simp_all[Op.operands]
 case convert s d x=>simp_all[Op.operands]
 case makeInterface t x=>grind[Op.operands]
 case makeFunc fn x y=>grind[Op.operands]
 case makeSlice t x y=>simp_all[Op.operands]
 case slice t x fc aq gK=>simp_all[Op.operands]
 case fieldAddr s x f=>simp_all[Op.operands]
 case field t x f=>simp_all[Op.operands]
 case indexAddr t x y=>simp_all[Op.operands]
 case index t x y=>simp_all[Op.operands]
 case typeAssert x t a ok=>simp_all[Op.operands]
 case extract x i=>simp_all[Op.operands]
 grind[Op.operands,Call.operands]
end
end Go.Ab
namespace Go.Ab
open Go
theorem Fm{α:Type}{p:α->α->Bool}(bS:∀x y,p x y=true->x=y):∀l m:List α,tD p l m=true->l=m
 | [],[],_=>rfl
 | [],_::_,h=>by cases h
 | _::_,[],h=>by cases h
 | x::l,y::m,h=>by
  have h:cond (p x y) (tD p l m) false=true:=h;cases aD:p x y with
  | true=>rw[aD]at h;rw[bS x y aD,Fm bS l m h]
  | false=>rw[aD]at h;cases h
theorem aiQ{k eE:IntKind}(h:tE k eE=true):k=eE:=by cases k<;>cases eE<;>first|rfl|cases h
theorem aiR{a b:Int}(h:oN a b=true):a=b:=by cases a<;>cases b;exact congrArg Int.ofNat (eq_of_beq_eq_true h);cases h;cases h;exact congrArg Int.negSucc (eq_of_beq_eq_true (show Nat.beq _ _=true from h)).symm
theorem Up{a b:Option Addr}(h:Cz a b=true):a=b:=by
 unfold Cz at h;cases a with
 | none=>grind
 | some a=>
  obtain⟨i,o,s⟩:=a;cases b with
  | none=>cases h
  | some b=>
   obtain⟨tN,dd,cn⟩:=b;cases s<;>cases cn<;>first|(cases h;done)|skip
   simp_all
theorem aiS{a b:Fn}(h:TK a b=true):a=b:=by
 cases a<;>first|(cases h;done)|skip
 cases b<;>first|(cases h;done)|skip
 exact congrArg Fn.func (eq_of_beq_eq_true h)
theorem Uq{a b:Bool}(h:Mp a b=true):a=b:=by cases a<;>cases b<;>first|rfl|cases h
theorem aiT{a b:UInt8}(h:Mq a b=true):a=b:=UInt8.toNat_inj.1 (eq_of_beq_eq_true h)
theorem Nn{sub:Value->Value->Bool}(aw:∀x y,sub x y=true->x=y)(x y:Value)(h:Ax sub x y=true):x=y:=by
 unfold Ax at h;cases x<;>cases y<;>simp only[Bool.false_eq_true,Bool.and_eq_true]at h<;>first|rfl|skip
 case bool.bool a b=>rw[Uq h]
 case int.int k a eE b=>grind[aiQ,aiR]
 case string.string a b=>grind[Fm,aiT,ByteArray.ext,Array.ext']
 case pointer.pointer a b=>rw[Up h]
 case slice.slice a n c cq k7 b5=>grind[Up,eq_of_beq_eq_true]
 case map.map a b=>grind[eq_of_beq_eq_true]
 case func.func f a b HY cq c0=>grind[aiS,Array.ext',Fm]
 case iface.iface t v EY aH=>grind[eq_of_beq_eq_true]
 grind[Array.ext',Fm]
theorem aiU(x y:Value)(h:Mr x y=true):x=y:=
 Nn (Nn (Nn fun _ _ h=>by cases h)) x y h
theorem aiV{H aa:ar}{id:Nat}(h:dV H aa id=true):∃b,H.get id=some b/\aa.get id=some b:=by
 unfold dV at h;cases bb:H.get id with
 | none=>simp_all
 | some b=>
  rw[bb]at h;cases bt:aa.get id with
  | none=>simp_all
  | some c0=>
   rw[bt]at h;simp only[Bool.and_eq_true]at h;obtain⟨eP,dH⟩:=b;obtain⟨dR,e0⟩:=c0
   grind[Uq,Fm,aiU]
end Go.Ab
namespace Go.Ab
open Go
inductive Obj where
 | cells (b:ay)
 | loop (l:ha)
 | nm
def Obj.wr:Obj->Bool
 | .cells b=>b.wr
 | _=>true
noncomputable def ar.cI(H:ar)(i:Nat):Option Obj:=match H.get i with
 | some b=>some (.cells b)
 | none=>(eD H.dI i).map .loop
def cellsOf(h:Nat->Option Obj)(i:Nat):Option ay:=match h i with
 | some (.cells b)=>some b
 | _=>none
theorem wc{h:Nat->Option Obj}{i:Nat}{b:ay}:cellsOf h i=some b↔h i=some (.cells b):=by grind[cellsOf]
def No:uP->LoopState->Option Code->Prop
 | .ready,s,p=>s=.ready/\p=none
 | .busy,s,_=>s=.busy
 | .over .ret,s,p=>s=.done/\p=some .ret
 | .over (.exit id),s,p=>s=.done/\p=some (.exit id)
 | .over .normal,_,_=>False
structure Iu (σ:cO) (l:ha) (L:Loop):Prop where
 T:bH σ l.T L.tmps.toList
 bJ:L.params.toList=l.bJ
 cS:L.assign=l.cS
 body:L.body=l.body
 st:No l.st L.state L.pending
def AX(aJ:Array MapEntry):List Value:=aJ.toList.flatMap fun e=>[e.key,e.val]
def ub(σ:cO)(l:ha)(dt:Go.Obj):Prop:=match mK l with
 | true=>∃aJ n,dt=.map aJ n/\bH σ l.T (AX aJ)
 | false=>∃L,dt=.loop L/\Iu σ l L
theorem ub.mono{σ τ:cO}{l:ha}{dt:Go.Obj}(hm:∀id x,σ id=some x->τ id=some x)(h:ub σ l dt):ub τ l dt:=by unfold ub at h⊢;split at h;obtain⟨aJ,n,h1,h2⟩:=h;exact⟨aJ,n,h1,h2.mono hm⟩;obtain⟨L,h1,h2⟩:=h;exact⟨L,h1,h2.T.mono hm,h2.bJ,h2.cS,h2.body,h2.st⟩
theorem ub.aiW{σ:cO}{l:ha}{dt:Go.Obj}(h:ub σ l dt):∀a b c,dt≠.cells a b c:=by grind[ub]
def rD(σ:cO)(w:World)(id:Nat):Obj->Prop
 | .cells b=>TM σ w id b
 | .loop l=>∃c o s dt,σ id=some (c,o,s)/\w.heap[c]?=some dt/\ub σ l dt
 | .nm=>∃c o s,σ id=some (c,o,s)/\w.heap[c]?=some (.deferred (some []))
theorem rD.we{σ:cO}{w:World}{id:Nat}{b:Obj}(h:rD σ w id b):∃c o s,σ id=some (c,o,s):=by
 cases b with
 | cells b=>obtain⟨c,o,s,_,_,_,h,_⟩:=h;simp_all
 | loop l=>obtain⟨c,o,s,_,h,_⟩:=h;simp_all
 | nm=>obtain⟨c,o,s,h,_⟩:=h;simp_all
def Obj.vc:Obj->Bool
 | .cells _=>true
 | _=>false
def aiX:Option Go.Obj->Bool
 | some (.cells _ _ _)=>true
 | _=>false
theorem rD.eF{σ:cO}{w:World}{id c o s:Nat}{b:Obj}(h:rD σ w id b)(aD:σ id=some (c,o,s)):aiX w.heap[c]?=b.vc/\c<w.heap.size:=by
 cases b with
 | cells b=>obtain⟨b5,dd,cn,_,_,_,h1,h2,_⟩:=h;rw[aD]at h1;cases h1;rw[h2];exact⟨rfl,(Array.getElem?_eq_some_iff.1 h2).1⟩
 | loop l=>
  obtain⟨b5,dd,cn,dt,h1,h2,aB⟩:=h;rw[aD]at h1;cases h1;rw[h2];refine⟨?_,(Array.getElem?_eq_some_iff.1 h2).1⟩;cases dt with
  | cells a b c=>exact absurd rfl (aB.aiW a b c)
  | _=>rfl
 | nm=>obtain⟨b5,dd,cn,h1,h2⟩:=h;rw[aD]at h1;cases h1;rw[h2];exact⟨rfl,(Array.getElem?_eq_some_iff.1 h2).1⟩
structure lh (σ:cO) (B:Nat) (h:Nat->Option Obj) (w:World):Prop where
 fC:∀id b,h id=some b->rD σ w id b
 own:∀id b,h id=some b->b.wr=true->∃c o s,σ id=some (c,o,s)/\B<=c
 la:∀i j ib gf,i≠j->h i=some ib->h j=some gf->ib.wr=true->∀c o s b5 dd cn,σ i=some (c,o,s)->σ j=some (b5,dd,cn)->c≠b5
theorem lh.cells{σ:cO}{B:Nat}{h:Nat->Option Obj}{w:World}(aw:lh σ B h w):jS σ B (cellsOf h) w:=
 ⟨fun id b an=>aw.fC id _ (wc.1 an),fun id b an=>aw.own id _ (wc.1 an),fun i j ib gf da aq bh=>aw.la i j _ _ da (wc.1 aq) (wc.1 bh)⟩
def AY(σ:cO)(h:Nat->Option Obj)(c:Nat):Prop:=∃id b o s,h id=some b/\b.wr=true/\σ id=some (c,o,s)
structure i6 (B:Nat) (σ:cO) (h:Nat->Option Obj) (n:Nat) (w:World) (τ:cO) (a6:Nat->Option Obj) (k7:Nat) (aV:World):Prop where
 fD:lh τ B a6 aV
 eu:n<=k7
 ext:∀id,id<n\/k7<=id->τ id=σ id
 mono:∀id x,σ id=some x->τ id=some x
 os:aV.os=w.os
 tape:aV.tape=w.tape
 output:aV.output=w.output
 size:w.heap.size<=aV.heap.size
 ld:∀c,c<w.heap.size->¬AY σ h c->aV.heap[c]?=w.heap[c]?
 s5:∀c,AY τ a6 c->c<w.heap.size->AY σ h c
open Classical in
noncomputable def e1(h:Nat->Option Obj)(H aa:ar):Nat->Option Obj:=fun id=>if aa.cI id=H.cI id then h id else aa.cI id
theorem i6.CY{B:Nat}{σ τ:cO}{h:Nat->Option Obj}{H aa:ar}{w aV:World}(aw:lh σ B h w)(g:lb B σ (cellsOf h) H.next w τ (iW (cellsOf h) H aa) aa.next aV)(aiY:aa.dI=H.dI)
  (aiZ:∀i,eD H.dI i≠none->aa.get i=H.get i):i6 B σ h H.next w τ (e1 h H aa) aa.next aV:=by
 have oP:∀i,aa.cI i=H.cI i↔aa.get i=H.get i:=by grind[ar.cI]
 have aCA:∀(id c o s:Nat) (b:Obj),h id=some b->(∀x,b≠.cells x)->σ id=some (c,o,s)->aV.heap[c]?=w.heap[c]?:=by
  intro id c o s b an Ur aD;obtain⟨ep,hl⟩:=(aw.fC id b an).eF aD;refine g.ld c hl ?_;rintro⟨j,gf,ix,Iv,bh,_,Fo⟩;have:=((aw.fC j _ (wc.1 bh)).eF Fo).1;rw[this]at ep;cases b with
  | cells x=>simp_all
  | loop l=>cases ep
  | nm=>cases ep
 have CZ:∀id b,e1 h H aa id=some b->(∃x,b=.cells x/\iW (cellsOf h) H aa id=some x)\/((∀x,b≠.cells x)/\h id=some b):=by
  intro id b an;unfold e1 at an;split at an;rename_i he;have he:=(oP id).1 he;cases b with
  | cells x=>simp_all[iW,wc]
  | loop l=>simp_all
  | nm=>simp_all
  rename_i he;have he:¬aa.get id=H.get id:=fun e=>he ((oP id).2 e)
  have aE:eD H.dI id=none:=Classical.byContradiction fun aR=>he (aiZ id aR)
  unfold ar.cI at an;rw[aiY,aE]at an;cases hg:aa.get id with
  | none=>simp_all
  | some x=>simp_all[iW]
 have y0:∀id b,e1 h H aa id=some b->rD τ aV id b:=by
  intro id b an;rcases CZ id b an with⟨x,rfl,al⟩|⟨aR,an⟩
  exact g.fD.fC id x al;have bC:=aw.fC id b an;cases b with
  | cells x=>simp_all
  | loop l=>obtain⟨c,o,s,dt,h1,h2,aB⟩:=bC;exact⟨c,o,s,dt,g.mono _ _ h1,by grind,aB.mono g.mono⟩
  | nm=>obtain⟨c,o,s,h1,h2⟩:=bC;exact⟨c,o,s,g.mono _ _ h1,by grind⟩
 refine⟨⟨y0,?_,?_⟩,g.eu,g.ext,g.mono,g.os,g.tape,g.output,g.size,?_,?_⟩;intro id b an aM;rcases CZ id b an with⟨x,rfl,al⟩|⟨aR,an⟩
 exact g.fD.own id x al aM;obtain⟨c,o,s,h1,h2⟩:=aw.own id b an aM;exact⟨c,o,s,g.mono _ _ h1,h2⟩;intro i j ib gf da aq bh aM c o s b5 dd cn aD gx;have bD:=y0 i ib aq;have ix:=y0 j gf bh;have Iw:=(bD.eF aD).1;have Ix:=(ix.eF gx).1;rcases CZ i ib aq with⟨x,rfl,al⟩|⟨aR,an⟩
 rcases CZ j gf bh with⟨y,rfl,a8⟩|⟨H7,jl⟩
 exact g.fD.la i j x y da al a8 aM c o s b5 dd cn aD gx;intro e;subst e;rw[Iw]at Ix;cases gf with
 | cells y=>simp_all
 | loop l=>cases Ix
 | nm=>cases Ix
 rcases CZ j gf bh with⟨y,rfl,a8⟩|⟨H7,jl⟩
 intro e;subst e;rw[Ix]at Iw;cases ib with
 | cells y=>simp_all
 | loop l=>cases Iw
 | nm=>cases Iw
 obtain⟨eP,bZ,di,bb⟩:=(aw.fC i ib an).we;obtain⟨dR,dr,cP,bt⟩:=(aw.fC j gf jl).we;have gM:=g.mono _ _ bb;have gN:=g.mono _ _ bt;rw[aD]at gM;rw[gx]at gN;cases gM;cases gN;exact aw.la i j ib gf da an jl aM _ _ _ _ _ _ bb bt;intro c aD ey;exact g.ld c aD fun⟨id,b,o,s,h1,h2,aB⟩=>ey ⟨id,_,o,s,wc.1 h1,h2,aB⟩
 rintro c ⟨id,b,o,s,h1,h2,aB⟩ aD;rcases CZ id b h1 with⟨x,rfl,al⟩|⟨aR,an⟩
 obtain⟨j,y,ix,Iv,ep,hl,oe⟩:=g.s5 c ⟨id,x,o,s,al,h2,aB⟩ aD;exact⟨j,_,ix,Iv,wc.1 ep,hl,oe⟩;obtain⟨eP,bZ,di,bb⟩:=(aw.fC id b an).we;have gM:=g.mono _ _ bb;rw[aB]at gM;cases gM;exact⟨id,b,o,s,an,h2,bb⟩
structure og (H:ar):Prop where
 lt:∀i,H.cI i≠none->i<H.next
 si:∀i,eD H.dI i≠none->H.get i=none
structure gh (H aa:ar):Prop where
 eu:H.next<=aa.next
 ck:aa.dB=H.dB
 ld:∀i,i<H.dB->aa.cI i=H.cI i
 cV:∀i,H.cI i=none->aa.cI i≠none->H.next<=i/\i<aa.next
 Iy:og H->og aa
theorem sj{H:ar}{i:Nat}:H.cI i=none↔H.get i=none/\eD H.dI i=none:=by
 unfold ar.cI;cases H.get i with
 | some b=>simp
 | none=>simp_all
theorem gh.refl(H:ar):gh H H:=⟨Nat.le_refl _,rfl,fun _ _=>rfl,fun _ h a6=>absurd h a6,fun h=>h⟩
theorem gh.trans{H br cB:ar}(a:gh H br)(b:gh br cB):gh H cB:=by refine⟨Nat.le_trans a.eu b.eu,b.ck.trans a.ck,fun i aq=>(b.ld i (by rw[a.ck];exact aq)).trans (a.ld i aq),fun i h h2=>?_,fun w=>b.Iy (a.Iy w)⟩;have h1:=a.eu;have aB:=b.eu;by_cases aN:br.cI i=none;have:=b.cV i aN h2;omega;have:=a.cV i h aN;omega
theorem gh.wf{H aa:ar}(a:gh H aa)(h:H.dB<=H.next):aa.dB<=aa.next:=by rw[a.ck];exact Nat.le_trans h a.eu
theorem ih.si{H aa:ar}(m:ih H aa)(w:og H):∀i,eD H.dI i≠none->aa.get i=H.get i:=by intro i aq;have aN:=w.si i aq;rw[aN];apply Classical.byContradiction;intro aR;have h1:=(m.cV i aN aR).1;have h2:=w.lt i (fun e=>aq (sj.1 e).2);omega
theorem ih.Us{H aa:ar}(m:ih H aa):gh H aa:=by
 refine⟨m.eu,m.ck,fun i aq=>?_,fun i h a6=>?_,fun w=>⟨fun i aq=>?_,fun i aq=>?_⟩⟩;unfold ar.cI;rw[m.ld i aq,m.cr];rw[sj]at h;have h2:aa.get i≠none:=fun e=>a6 (sj.2 ⟨e,by rw[m.cr];exact h.2⟩)
 exact m.cV i h.1 h2;by_cases aN:H.cI i=none;have Ut:=sj.1 aN;have h2:aa.get i≠none:=fun e=>aq (sj.2 ⟨e,by rw[m.cr];grind⟩)
 exact(m.cV i Ut.1 h2).2;exact Nat.lt_of_lt_of_le (w.lt i aN) m.eu;rw[m.cr]at aq;rw[m.si w i aq];exact w.si i aq
theorem i6.refl{B:Nat}{σ:cO}{h:Nat->Option Obj}{n:Nat}{w:World}(aw:lh σ B h w):i6 B σ h n w σ h n w:=
 ⟨aw,Nat.le_refl _,fun _ _=>rfl,fun _ _ h=>h,rfl,rfl,rfl,Nat.le_refl _,fun _ _ _=>rfl,fun _ h _=>h⟩
theorem i6.trans{B:Nat}{σ τ iV:cO}{h h1 h2:Nat->Option Obj}{n eZ fI:Nat}{w dH e0:World}(a:i6 B σ h n w τ h1 eZ dH)(b:i6 B τ h1 eZ dH iV h2 fI e0):
  i6 B σ h n w iV h2 fI e0:=by
 refine⟨b.fD,Nat.le_trans a.eu b.eu,fun id eW=>?_,fun id x al=>b.mono _ _ (a.mono _ _ al),b.os.trans a.os,b.tape.trans a.tape,b.output.trans a.output,Nat.le_trans a.size b.size,
  fun c aD ey=>?_,fun c bC aD=>a.s5 c (b.s5 c bC (Nat.lt_of_lt_of_le aD a.size)) aD⟩
 have h1:=a.eu;have h2:=b.eu;rw[b.ext id (by omega),a.ext id (by omega)];rw[b.ld c (Nat.lt_of_lt_of_le aD a.size) (fun bC=>ey (a.s5 c bC aD)),a.ld c aD ey]
theorem rD.drawn{σ:cO}{w:World}{id:Nat}{b:Obj}(k:Nat)(h:rD σ w id b):rD σ {w with drawn:=k} id b:=by cases b<;>exact h
theorem i6.ai0{B:Nat}{σ:cO}{h:Nat->Option Obj}{n:Nat}{w:World}(aw:lh σ B h w)(k:Nat):i6 B σ h n w σ h n {w with drawn:=k}:=
 ⟨⟨fun id b an=>(aw.fC id b an).drawn k,aw.own,aw.la⟩,Nat.le_refl _,fun _ _=>rfl,fun _ _ h=>h,rfl,rfl,rfl,Nat.le_refl _,fun _ _ _=>rfl,fun _ h _=>h⟩
theorem lh.Iz{B:Nat}{σ:cO}{h a6:Nat->Option Obj}{w:World}(aw:lh σ B h w)(aE:∀id b,a6 id=some b->h id=some b):lh σ B a6 w:=
 ⟨fun id b an=>aw.fC id b (aE _ _ an),fun id b an=>aw.own id b (aE _ _ an),fun i j ib gf da aq bh=>aw.la i j ib gf da (aE _ _ aq) (aE _ _ bh)⟩
theorem i6.Iz{B:Nat}{σ τ:cO}{h a6 Uu:Nat->Option Obj}{n k7:Nat}{w aV:World}(g:i6 B σ h n w τ Uu k7 aV)(aE:∀id b,a6 id=some b->Uu id=some b):i6 B σ h n w τ a6 k7 aV:=
 ⟨g.fD.Iz aE,g.eu,g.ext,g.mono,g.os,g.tape,g.output,g.size,g.ld,fun c ⟨id,b,o,s,an,aM,aD⟩=>g.s5 c ⟨id,b,o,s,aE _ _ an,aM,aD⟩⟩
def vd(H:ar)(h:Nat->Option Obj):Prop:=∀id b,H.cI id=some b->h id=some b
theorem C1(h:Nat->Option Obj)(H:ar):e1 h H H=h:=by grind[e1]
theorem vd.iW{H aa:ar}{h:Nat->Option Obj}(aw:vd H h):vd aa (e1 h H aa):=by intro id b an;unfold e1;split;rename_i e;exact aw id b (e▸an);omega
end Go.Ab
namespace Go.Ab
open Go
abbrev ei(r:Option Nat):Fence:={fn:=fun _=>True,depth:=none,alive:=false,round:=r}
theorem ai1(r:Option Nat)(k:Nat):(ei r).room k:=fun _ h=>by cases h
structure c8 (P:Program):Prop where
 ai2:∀(f:Nat) (fn:Func), P.funcs[f]? = some fn->fn.name≠ "runtime.NumGoroutine"
 mixed:P.follows .mixedOrders=true
section
variable{P:Program}{B:Nat}{σ:cO}{h:Nat->Option Obj}{H aa:ar}{w:World}
class hD where
 kj:Nat->Option _root_.Go.Obj
 fc:Nat
structure gS [hD] (P:Program) (B:Nat) (σ:cO) (h:Nat->Option Obj) (H:ar) (w:World):Prop where
 fD:lh σ B h w
 sub:vd H h
 dP:B<=w.heap.size
 Np:yZ P σ
 wf:og H
 ck:H.dB<=H.next
 base:∀c,c<B->w.heap[c]?=hD.kj c
 fc:hD.fc<=B
variable[hD]
theorem i6.base{n:Nat}{τ:cO}{a6:Nat->Option Obj}{k7:Nat}{aV:World}(g:i6 B σ h n w τ a6 k7 aV)(aw:lh σ B h w)(dP:B<=w.heap.size)(an:∀c,c<B->w.heap[c]?=hD.kj c):∀c,c<B->aV.heap[c]?=hD.kj c:=fun c aD=>
 (g.ld c (Nat.lt_of_lt_of_le aD dP) (fun⟨id,b,o,s,h1,h2,aB⟩=>by
  obtain⟨b5,dd,cn,bk,cj⟩:=aw.own id b h1 h2
  grind)).trans (an c aD)
structure fx (B:Nat) (σ:cO) (h:Nat->Option Obj) (H:ar) (w:World) (τ:cO) (a6:Nat->Option Obj) (aa:ar) (aV:World):Prop where
 gO:i6 B σ h H.next w τ a6 aa.next aV
 sub:vd aa a6
 xt:∀id b,e1 h H aa id=some b->a6 id=some b
 kt:gh H aa
def gq(σ:cO)(n k7:Nat):Prop:=∀i,n<=i->i<k7->σ i=none
theorem gS.next{τ:cO}{a6:Nat->Option Obj}{aV:World}(k:gS P B σ h H w)(s:fx B σ h H w τ a6 aa aV):gS P B τ a6 aa aV:=by refine⟨s.gO.fD,s.sub,Nat.le_trans k.dP s.gO.size,fun g hg=>?_,s.kt.Iy k.wf,s.kt.wf k.ck,s.gO.base k.fD k.dP k.base,k.fc⟩;obtain⟨z,dQ⟩:=k.Np g hg;exact⟨z,s.gO.mono _ _ dQ⟩
theorem fx.refl(k:gS P B σ h H w):fx B σ h H w σ h H w:=⟨i6.refl k.fD,k.sub,fun id b an=>by rwa [C1]at an,gh.refl H⟩
theorem ai3{h1 h2:Nat->Option Obj}{br cB:ar}(aw:lh σ B h w)(rE:vd H h)(cH:gq σ H.next br.next)(fk:gh H br)
  (eP:∀id b,e1 h H br id=some b->h1 id=some b) (dR:∀id b,e1 h1 br cB id=some b->h2 id=some b):∀id b,e1 h H cB id=some b->h2 id=some b:=by
 intro id b an;refine dR id b ?_;by_cases bt:cB.cI id=br.cI id;have:e1 h1 br cB id=h1 id:=by simp_all[e1]
 grind[e1]
 have:e1 h1 br cB id=cB.cI id:=by simp_all[e1]
 rw[this];unfold e1 at an;split at an;rename_i e;rw[e];cases hg:H.cI id with
 | some j9=>have:=rE id j9 hg;simp_all
 | none=>
  exfalso;have Fp:br.cI id≠none:=fun aN=>bt (by simp_all)
  have:=fk.cV id hg Fp;have dU:=cH id this.1 this.2;obtain⟨c,o,s,b7⟩:=(aw.fC id b an).we
  simp_all
 omega
theorem fx.trans{τ iV:cO}{h1 h2:Nat->Option Obj}{br cB:ar}{dH e0:World}(k:gS P B σ h H w)(cH:gq σ H.next br.next)(a:fx B σ h H w τ h1 br dH)(b:fx B τ h1 br dH iV h2 cB e0):
  fx B σ h H w iV h2 cB e0:=
 ⟨a.gO.trans b.gO,b.sub,ai3 k.fD k.sub cH a.kt a.xt b.xt,a.kt.trans b.kt⟩
theorem gq.left{n eZ fI:Nat}(f:gq σ n fI)(h1:eZ<=fI):gq σ n eZ:=fun i a b=>f i a (Nat.lt_of_lt_of_le b h1)
theorem gq.right{τ:cO}{h1:Nat->Option Obj}{n eZ fI:Nat}{w dH:World}(f:gq σ n fI)(g:i6 B σ h n w τ h1 eZ dH):gq τ eZ fI:=fun i a b=>by rw[g.ext i (.inr a)];exact f i (Nat.le_trans g.eu a) b
theorem fx.ai4{τ:cO}{aV:World}(k:gS P B σ h H w)(g:i6 B σ h H.next w τ (e1 h H aa) aa.next aV)(m:gh H aa):fx B σ h H w τ (e1 h H aa) aa aV:=
 ⟨g,k.sub.iW,fun _ _ an=>an,m⟩
def AZ:mJ->Exit
 | .normal=>.normal
 | .exit id=>.exit id
 | .ret=>.ret
structure Nq (τ:cO) (a6:Nat->Option Obj) (aa:ar) (fc:Nat) (ms:List Deferred):Prop where
 C2:∀d∈ms,∃id c o s,d.target=.collected c/\τ id=some (c,o,s)/\a6 id=some .nm/\aa.cI id=none/\fc<=id/\id<aa.next
 A0:ms.Pairwise fun d e=>d.target≠e.target
def s9(B:Nat)(σ:cO)(h:Nat->Option Obj)(H:ar)(w:World)(ds:List Deferred)(aS:dY):Exit->Act->World->Prop:=
 fun e cq aV=>e=AZ aS.cJ/\∃ms τ a6,cq.defers=ms++ds/\Nq τ a6 aS.H H.next ms/\bH τ aS.T cq.tmps.toList/\fx B σ h H w τ a6 aS.H aV
def Nr:At->ar
 | .loop _ _ _ H=>H
 | .call _ _ H=>H
 | .round _ _ H=>H
structure h3 [hD] (P:Program) (bg:hz):Prop where
 kt:∀t aS,bg t=some aS->(Nr t).dB<=(Nr t).next->gh (Nr t) aS.H
 call:∀f args H cJ v aa,bg (.call f args H)=some ⟨cJ,[v],aa⟩->∀(B:Nat) (σ:cO) (h:Nat->Option Obj) (w:World) (fN:Array Value),gS P B σ h H w->gq σ H.next aa.next->bH σ args fN.toList->
  (∃fn c,P.funcs[f]?=some fn/\fn.body=some c)/\CallsIn (ei none) 0 P f fN w (fun e aV=>∃aH τ a6,e=.returned aH/\ch τ v aH/\fx B σ h H w τ a6 aa aV)
 round:∀l args H cJ v aa,bg (.round l args H)=some ⟨cJ,[v],aa⟩->∀(B:Nat) (σ:cO) (h:Nat->Option Obj) (w:World) (fN:Array Value) (c o s:Nat) (r:Option Nat),gS P B σ h H w->gq σ H.next aa.next->bH σ args fN.toList->σ l=some (c,o,s)->
  ∃fn tmps cS body,(Instr.yield c fN).run P w=.ok (.round c fn tmps cS body) w/\RoundIn (ei r) 0 P c fn tmps cS body w (fun e aV=>∃aH τ a6,e=.returned aH/\ch τ v aH/\fx B σ h H w τ a6 aa aV)
 loop:∃n,∀c6 c T H aS,bg (.loop c6 c T H)=some aS->∀(B:Nat) (σ:cO) (h:Nat->Option Obj) (w:World) (a:Act) (r:Option Nat),(c6=true->r=none)->gS P B σ h H w->gq σ H.next aS.H.next->bH σ T a.tmps.toList->
  Code.roundsIn (ei r) 0 P c (s9 B σ h H w a.defers aS) n a w
theorem Uv{bf:Array Oper}{T:List Value}{a:Act}(bd:bH σ T a.tmps.toList)(o:Oper):Region.wanted o (yielded bf a.tmps)=(ia bf.toList o.guard).f T:=by
 unfold Region.wanted ia;cases o.guard with
 | none=>rfl
 | some A1=>
  obtain⟨j,cN⟩:=A1;simp only[yielded];have e:bf.toList[j]?=bf[j]?:=by simp
  rw[e];cases aO:(bf[j]?).bind (·.dst)with
  | none=>rfl
  | some d=>
   simp only[Option.bind_some,oR];cases hv:T[d]? with
   | none=>
    have:a.tmps[d]?=none:=by
     have h1:=List.getElem?_eq_none_iff.1 hv;have h2:=bd.length
     simp_all
    simp_all[undef]
   | some v=>
    obtain⟨aH,h1,h2⟩:=bd.get d v hv;have:a.tmps[d]?=some aH:=by simp_all
    rw[this];simp only[getD_eq_getElem?_getD,hv,Option.getD_some];cases h2<;>first|rfl|(cases cN<;>simp)
theorem wg{T:List Value}{a:Act}(bd:bH σ T a.tmps.toList)(d:Option Tmp){v aH:Value}(hv:ch σ v aH):bH σ (hZ T d v) (a.put d aH).tmps.toList/\(a.put d aH).defers=a.defers:=by
 cases d with
 | none=>exact⟨bd,rfl⟩
 | some d=>refine⟨?_,rfl⟩;show bH σ (gJ T d v) (a.tmps.setIfInBounds d aH).toList;rw[oS,Array.toList_setIfInBounds];exact bd.set d hv
theorem IA(dA:c8 P){f:FuncId}{fn:Func}{c:Code}(hf:P.funcs[f]?=some fn)(an:fn.body=some c)(args:Array Value)(w:World):(callFunc f args).run P w=.ok (.enter f args) w:=by
 have aR:=dA.ai2 f fn hf
 simp_all[callFunc]
theorem ai5{t:TypeId}{name:String}{f:FuncId}{ai:Bool}(hm:Mk P t name=some (f,ai))(bS:Ml P t=some ai)(v:Value)(w:World)(n:Nat):
  (method (n+1) t v name).run P w=.ok (f,v) w:=by
 unfold Mk at hm;cases aq:P.info? t with
 | none=>simp_all
 | some i=>
  rw[aq]at hm;simp only at hm;cases hf:i.methods.toList.find? (fun m=>m.name==name)with
  | none=>simp_all
  | some m=>
   rw[hf]at hm;simp only at hm;cases hpath:m.path.toList with
   | cons _ _=>simp_all
   | nil=>
    rw[hpath]at hm;simp only at hm;have sk:i.methods.find? (fun m=>m.name==name)=some m:=by simp_all
    unfold Ml at bS;have bc:∃d,P.underlying t=some d/\(match d with|.pointer _=>true|_=>false)=ai:=by grind
    obtain⟨d,bc,aO⟩:=bc;unfold method;have ai6:(typeInfo t).run P w=.ok i w:=by simp[typeInfo,aq]
    simp only[Sem.run_bind,ai6,Result.andThen_ok,sk,hpath,follow,Sem.run_pure,hm,receiverAt,run_underlying bc];cases ai with
    | true=>
     cases d<;>first|(cases aO;done)|skip
     rfl
    | false=>cases d<;>first|(cases aO;done)|(simp[Place.get])
end
end Go.Ab
namespace Go.Ab
open Go
theorem IB:∀(l:List (Nat×ha)) (i:Nat) (v:ha),eD l i≠none->eD (lv l i v) i=some v
 | [],_,_,h=>absurd rfl h
 | x::r,i,v,h=>by
  have bb:eD (x::r) i=cond (Nat.beq x.1 i) (some x.2) (eD r i):=rfl;have bt:lv (x::r) i v=cond (Nat.beq x.1 i) ((i,v)::r) (x::lv r i v):=rfl;rw[bt];cases an:Nat.beq x.1 i with
  | true=>
   show cond (Nat.beq i i) (some v) _=some v
   simp_all
  | false=>
   rw[bb,an]at h;show cond (Nat.beq x.1 i) (some x.2) (eD (lv r i v) i)=some v
   simp_all[IB]
theorem xu:∀(l:List (Nat×ha)) (i j:Nat) (v:ha),j≠i->eD (lv l i v) j=eD l j
 | [],_,_,_,_=>rfl
 | x::r,i,j,v,h=>by
  have bb:eD (x::r) j=cond (Nat.beq x.1 j) (some x.2) (eD r j):=rfl;have bt:lv (x::r) i v=cond (Nat.beq x.1 i) ((i,v)::r) (x::lv r i v):=rfl;rw[bb,bt];cases an:Nat.beq x.1 i with
  | true=>
   have ai7:x.1=i:=eq_of_beq_eq_true an;have p9:Nat.beq i j=false:=by
    cases aD:Nat.beq i j with
    | false=>rfl
    | true=>exact absurd (eq_of_beq_eq_true aD).symm h
   show cond (Nat.beq i j) (some v) (eD r j)=_;rw[ai7,p9];rfl
  | false=>show cond (Nat.beq x.1 j) (some x.2) (eD (lv r i v) j)=_;rw[xu r i j v h]
theorem qa(x:Nat×ha)(r:List (Nat×ha))(j:Nat):eD (x::r) j=if x.1=j then some x.2 else eD r j:=by
 show cond (Nat.beq x.1 j) (some x.2) (eD r j)=_
 simp_all
theorem IC(H:ar)(i:Nat):(sa H).cI i=if i=H.next then some (.loop (jN []))else H.cI i:=by
 have g:(sa H).get i=if i=H.next then none else H.get i:=by
  show(H.t.set H.next none).get i=_;by_cases h1:i=H.next
  simp_all[Tr.yS]
  rw[if_neg h1,Tr.ly _ _ _ _ h1];rfl
 have l:eD (sa H).dI i=if H.next=i then some (jN [])else eD H.dI i:=qa _ _ _
 unfold ar.cI
 grind
theorem ai8{H:ar}(hf:H.dB<=H.next):gh H (sa H):=by
 refine⟨by show _<=H.next+1;omega,rfl,fun i aq=>?_,fun i h a6=>?_,fun wf=>⟨fun i aq=>?_,fun i aq=>?_⟩⟩;rw[IC,if_neg (by omega)];rw[IC]at a6;split at a6;rename_i e;subst e;exact⟨Nat.le_refl _,by show _<H.next+1;omega⟩
 simp_all
 show i<H.next+1;rw[IC]at aq;split at aq;omega;have:=wf.lt i aq;omega;have aE:eD (sa H).dI i=if H.next=i then some (jN [])else eD H.dI i:=qa _ _ _
 rw[aE]at aq;show(H.t.set H.next none).get i=none;by_cases h1:H.next=i
 simp_all[Tr.yS]
 rw[if_neg h1]at aq;rw[Tr.ly _ _ _ _ (Ne.symm h1)];exact wf.si i aq
section
variable{P:Program}{B:Nat}{σ:cO}{h:Nat->Option Obj}{H aa:ar}{w:World}
theorem ai9(aw:lh σ B h w)(dP:B<=w.heap.size)(qb:og H)(cH:σ H.next=none)(cW:True):
  ∃ τ,i6 B σ h H.next w τ (e1 h H (sa H)) (sa H).next (w.alloc (.map #[] 0))/\ch τ (.map (some H.next)) (.map (some w.heap.size)):=by
 let mn:cO:=fun id=>if id=H.next then some (w.heap.size,0,0)else σ id
 have mono:∀id x,σ id=some x->mn id=some x:=fun id x al=>by grind
 have di:mn H.next=some (w.heap.size,0,0):=if_pos rfl;have cP:∀id,id≠H.next->mn id=σ id:=fun id e=>if_neg e
 have aN:H.cI H.next=none:=Classical.byContradiction fun e=>absurd (qb.lt _ e) (by omega)
 have bc:∀id,e1 h H (sa H) id=if id=H.next then some (.loop (jN []))else h id:=by simp_all[e1,IC]
 have da:∀id b,h id=some b->id≠H.next:=fun id b an e=>by
  obtain⟨c,o,s,aD⟩:=(aw.fC id b an).we
  simp_all
 have dy:∀id b c o s,h id=some b->σ id=some (c,o,s)->c<w.heap.size:=fun id b c o s an aD=>((aw.fC id b an).eF aD).2
 have ve:∀c,c<w.heap.size->(w.alloc (.map #[] 0)).heap[c]?=w.heap[c]?:=fun c aD=>by
  show(w.heap.push _)[c]?=_
  grind
 have xw:(w.alloc (.map #[] 0)).heap[w.heap.size]?=some (.map #[] 0):=by show(w.heap.push _)[w.heap.size]?=_;simp
 have uc:∀id b,e1 h H (sa H) id=some b->(id=H.next/\b=.loop (jN []))\/(id≠H.next/\h id=some b):=by grind
 have fD:lh mn B (e1 h H (sa H)) (w.alloc (.map #[] 0)):=by
  refine⟨fun id b an=>?_,fun id b an aM=>?_,fun i j ib gf p9 aq bh aM=>?_⟩;rcases uc id b an with⟨rfl,rfl⟩|⟨e,an⟩
  exact⟨_,_,_,_,di,xw,#[],0,rfl,.nil⟩;have bC:=aw.fC id b an;have aE:=dy id b;cases b with
  | cells x=>obtain⟨c,o,s,db,cW,ec,h1,h2,aB,bk,cj,dh⟩:=bC;exact⟨c,o,s,db,cW,ec,mono _ _ h1,by simp_all,aB,bk,cj.mono mono,dh⟩
  | loop x=>obtain⟨c,o,s,cA,h1,h2,aB⟩:=bC;exact⟨c,o,s,cA,mono _ _ h1,by simp_all,aB.mono mono⟩
  | nm=>obtain⟨c,o,s,h1,h2⟩:=bC;exact⟨c,o,s,mono _ _ h1,by simp_all⟩
  rcases uc id b an with⟨rfl,rfl⟩|⟨e,an⟩
  simp_all
  obtain⟨c,o,s,bb,bt⟩:=aw.own id b an aM
  simp_all
  intro c o s b5 dd cn aD gx;rcases uc i ib aq with⟨rfl,rfl⟩|⟨c1,aq⟩<;>rcases uc j gf bh with⟨rfl,rfl⟩|⟨b1,bh⟩
  omega
  grind
  grind
  rw[cP i c1]at aD;rw[cP j b1]at gx;exact aw.la i j ib gf p9 aq bh aM _ _ _ _ _ _ aD gx
 refine⟨mn,⟨fD,le_succ _,fun id eW=>cP id (fun e=>?_),mono,rfl,rfl,rfl,by simp_all,fun c aD _=>ve c aD,fun c ⟨id,b,o,s,an,aM,aD⟩ hlt'=>?_⟩,.xh _ _ _ _ di .nil⟩;rcases eW with h1|h1
 omega;have:H.next+1<=id:=h1;omega;rcases uc id b an with⟨rfl,rfl⟩|⟨c1,an⟩
 simp_all
 rw[cP id c1]at aD;exact⟨id,b,o,s,an,aM,aD⟩
theorem lh.map(aw:lh σ B h w)(rE:vd H h)(qb:og H){id:Nat}{r:ha}(aE:eD H.dI id=some r)(hm:mK r=true):
  h id=some (.loop r)/\H.get id=none/\∃c o s aJ n,σ id=some (c,o,s)/\B<=c/\w.heap[c]?=some (.map aJ n)/\bH σ r.T (AX aJ):=by
 have hg:H.get id=none:=qb.si id (by grind);have hO:H.cI id=some (.loop r):=by simp_all[ar.cI]
 have hh:=rE id _ hO;obtain⟨c,o,s,dt,h1,h2,aB⟩:=aw.fC id _ hh;obtain⟨b5,dd,cn,bk,cj⟩:=aw.own id _ hh rfl
 simp_all[ub]
theorem aja{id:Nat}{r v:ha}(hg:H.get id=none)(aE:eD H.dI id=some r)(i:Nat):ar.cI ⟨H.t,H.next,H.dB,lv H.dI id v⟩ i=if i=id then some (.loop v)else H.cI i:=by
 show(match H.get i with|some b=>some (Obj.cells b)|none=>(eD (lv H.dI id v) i).map .loop)=_;by_cases aq:i=id
 simp_all[IB]
 rw[if_neg aq,xu _ _ _ _ aq];rfl
theorem Uw{id:Nat}{r v:ha}(lB:H.dB<=id)(aE:eD H.dI id=some r):gh H ⟨H.t,H.next,H.dB,lv H.dI id v⟩:=by
 have xx:∀i,ar.cI ⟨H.t,H.next,H.dB,lv H.dI id v⟩ i=none↔H.cI i=none:=by
  intro i;rw[sj,sj];show H.get i=none/\eD (lv H.dI id v) i=none↔_
  grind[IB,xu]
 refine⟨Nat.le_refl _,rfl,fun i aq=>?_,fun i aq fJ=>absurd ((xx i).2 aq) fJ,fun wf=>⟨fun i aq=>wf.lt i (fun e=>aq ((xx i).2 e)),fun i aq=>?_⟩⟩;show(match H.get i with|some b=>some (Obj.cells b)|none=>(eD (lv H.dI id v) i).map .loop)=_;rw[xu _ _ _ _ (by omega)];rfl;show H.get i=none;refine wf.si i ?_
 grind[xu]
theorem ajb(aw:lh σ B h w)(rE:vd H h)(qb:og H){id:Nat}{r v:ha}(aE:eD H.dI id=some r)(hm:mK r=true)(hv:mK v=true){c o s:Nat}(dU:σ id=some (c,o,s)){aJ:Array MapEntry}{n:Nat}(bd:bH σ v.T (AX aJ)):
  i6 B σ h H.next w σ (e1 h H ⟨H.t,H.next,H.dB,lv H.dI id v⟩) H.next (w.putObj c (.map aJ n)):=by
 obtain⟨hh,hg,b5,dd,cn,ajc,hc,bO,q2,dz,eM⟩:=aw.map rE qb aE hm;rw[dU]at bO;cases bO;have aD:c<w.heap.size:=(Array.getElem?_eq_some_iff.1 dz).1;have bc:∀i,e1 h H ⟨H.t,H.next,H.dB,lv H.dI id v⟩ i=if i=id then some (.loop v)else h i:=by
  intro i;unfold e1;rw[aja hg aE];by_cases e:i=id;rw[if_pos e,if_pos e,e];have ic:H.cI id=some (.loop r):=by simp_all[ar.cI]
  simp_all
  simp_all
 have Fq:∀i b b5 dd cn,i≠id->h i=some b->σ i=some (b5,dd,cn)->b5≠c:=fun i b b5 dd cn da an gx e=>by subst e;exact aw.la id i _ b (Ne.symm da) hh an rfl _ _ _ _ _ _ dU gx rfl
 have put:∀ {i b},rD σ w i b->(∀b5 dd cn,σ i=some (b5,dd,cn)->b5≠c)->rD σ (w.putObj c (.map aJ n)) i b:=by
  intro i b eW da;have e:∀b5,b5≠c->(w.putObj c (.map aJ n)).heap[b5]?=w.heap[b5]?:=fun b5 h=>World.putObj_heap_other h
  cases b with
  | cells b=>obtain⟨b5,dd,cn,db,cW,ec,h1,h2,aB,bk,cj,dh⟩:=eW;exact⟨b5,dd,cn,db,cW,ec,h1,by simp_all,aB,bk,cj,dh⟩
  | loop r=>obtain⟨b5,dd,cn,cA,h1,h2,aB⟩:=eW;exact⟨b5,dd,cn,cA,h1,by simp_all,aB⟩
  | nm=>obtain⟨b5,dd,cn,h1,h2⟩:=eW;exact⟨b5,dd,cn,h1,by simp_all⟩
 have fD:lh σ B (e1 h H ⟨H.t,H.next,H.dB,lv H.dI id v⟩) (w.putObj c (.map aJ n)):=by
  refine⟨fun i b an=>?_,fun i b an aM=>?_,fun i j ib gf da aq bh aM=>?_⟩;rw[bc]at an;by_cases aq:i=id;subst aq;rw[if_pos rfl]at an;cases an;refine⟨c,o,s,_,dU,World.putObj_heap_same aD,?_⟩
  simp_all[ub]
  rw[if_neg aq]at an;exact put (aw.fC i b an) fun b5 dd cn gx=>Fq i b b5 dd cn aq an gx
  rw[bc]at an;by_cases aq:i=id
  simp_all
  rw[if_neg aq]at an;exact aw.own i b an aM;intro ajd bD aje ajf ix Iv Ns Fo;rw[bc]at aq bh;by_cases sl:i=id
  grind
  rw[if_neg sl]at aq;by_cases qO:j=id
  grind
  rw[if_neg qO]at bh;exact aw.la i j ib gf da aq bh aM _ _ _ _ _ _ Ns Fo
 have Nt:∀x,AY σ (e1 h H ⟨H.t,H.next,H.dB,lv H.dI id v⟩) x->AY σ h x:=by rintro x ⟨i,b,bZ,di,an,aM,al⟩;rw[bc]at an;by_cases aq:i=id;subst aq;exact⟨i,_,bZ,di,hh,rfl,al⟩;rw[if_neg aq]at an;exact⟨i,b,bZ,di,an,aM,al⟩
 refine⟨fD,Nat.le_refl _,fun _ _=>rfl,fun _ _ h=>h,rfl,rfl,rfl,Nat.le_of_eq World.putObj_size.symm,fun x al ey=>?_,fun x al _=>Nt x al⟩;refine World.putObj_heap_other ?_;rintro rfl;exact ey ⟨id,_,o,s,hh,rfl,dU⟩
theorem ajg{k eE:IntKind}(h:tE k eE=true):k=eE:=by cases k<;>cases eE<;>first|rfl|cases h
theorem ID{bl:Bool}{jr:TypeDesc}{key oW:Value}(ag:ch σ key oW)(qP:(bl=true/\jr=.string)\/(bl=false/\∃k,jr=.int k)):∀(aJ:List MapEntry) (T:List Value) (x:Option Value) (i:Nat),bH σ T (aJ.flatMap fun e=>[e.key,e.val])->vU bl key T=some x->
  match x with
  | none=>Instr.findNow jr oW aJ i=some none
  | some v=>∃j aH,Instr.findNow jr oW aJ i=some (some (j,aH))/\ch σ v aH
 | [],T,x,i,bd,al=>by
  obtain rfl:T=[]:=by cases bd;rfl
  cases al;rfl
 | e::aJ,T,x,i,bd,al=>by
  cases T with
  | nil=>cases bd
  | cons k T=>
  cases T with
  | nil=>
   obtain⟨eE,dx,h1,h2,aB⟩:=bd.mP;have h1:e.key::(e.val::aJ.flatMap fun e=>[e.key,e.val])=eE::dx:=h1;injection h1 with _ h1
   rw[<- h1]at aB;cases aB
  | cons v T=>
  obtain⟨eE,dx,h1,h2,aB⟩:=bd.mP;obtain⟨aH,r2,bk,cj,dh⟩:=aB.mP;have h1:e.key::(e.val::aJ.flatMap fun e=>[e.key,e.val])=eE::dx:=h1;injection h1 with b7 ca
  rw[bk]at ca;injection ca with g3 g4
  subst b7;subst g3;subst g4;have al:(match Cw bl key k with|some true=>some (some v)|some false=>vU bl key T|none=>none)=some x:=al;have aR:∀b,Cw bl key k=some b->Instr.sameNow jr oW e.key=some b:=by
   intro b an;rcases qP with⟨rfl,rfl⟩|⟨rfl,oX,rfl⟩
   ·cases key with
    | string di=>
     cases k with
     | string cP=>
      have bb:oW=.string di:=by cases ag;rfl
      have bt:e.key=.string cP:=by generalize e.key=z at h2;cases h2;rfl
      rw[bb,bt];exact an
     | _=>cases an
    | _=>cases an
   ·cases key with
    | int ep fk=>
     cases k with
     | int hl dE=>
      have bb:oW=.int ep fk:=by cases ag;rfl
      have bt:e.key=.int hl dE:=by generalize e.key=z at h2;cases h2;rfl
      rw[bb,bt]
      replace an:(match tE ep hl with|true=>some (oN fk dE)|false=>none)=some b:=an
      cases IE:tE ep hl with
      | true=>
       rw[IE]at an;have an:some (oN fk dE)=some b:=an;have:=ajg IE;subst this;injection an with an
       subst an;show(if ep=ep then some (fk==dE)else none)=_;rw[if_pos rfl,rA]
       congr 1
      | false=>simp_all
     | _=>cases an
    | _=>cases an
  have hf:Instr.findNow jr oW (e::aJ) i=(match Instr.sameNow jr oW e.key with|some true=>some (some (i,e.val))|some false=>Instr.findNow jr oW aJ (i+1)|none=>none):=rfl;rw[hf];cases an:Cw bl key k with
  | none=>simp_all
  | some b=>
   rw[an]at al;rw[aR b an];cases b with
   | true=>grind
   | false=>exact ID ag qP aJ T x (i+1) dh al
theorem Nu{e:Bool}{vf:TypeId}{jr:TypeDesc}{key:Value}(bc:P.underlying vf=some jr)(qP:jr=.string\/∃k,jr=.int k)(w:World):(Instr.checkKey e 10000 vf key).run P w=.ok () w:=by show(Instr.checkKey e (9999+1) vf key).run P w=_;generalize 9999=d;simp only[Instr.checkKey,Sem.run_bind,run_underlying bc,Result.andThen_ok];rcases qP with rfl|⟨k,rfl⟩<;>rfl
theorem Ux{c n:Nat}{aJ:Array MapEntry}(h:w.heap[c]?=some (.map aJ n)):(getObj c).run P w=.ok (.map aJ n) w:=by simp[getObj,Sem.run,h]
theorem ajh{c n:Nat}{aJ:Array MapEntry}(dt:Go.Obj)(h:w.heap[c]?=some (.map aJ n)):(setObj c dt).run P w=.ok () (w.putObj c dt):=by simp[setObj,Sem.run,h,World.putObj]
theorem Uy{t:TypeId}{bl:Bool}{e:TypeId}(h:As P t=some (bl,e)):∃vf jr,P.underlying t=some (.map vf e)/\P.underlying vf=some jr/\((bl=true/\jr=.string)\/(bl=false/\∃k,jr=.int k)):=by grind[As]
theorem Nv{vf:TypeId}{jr:TypeDesc}{key:Value}{aJ:List MapEntry}{r:Option (Nat×Value)}(bc:P.underlying vf=some jr)(hf:Instr.findNow jr key aJ 0=some r)(w:World):(Instr.findKey vf key aJ).run P w=.ok r w:=by simp_all[Instr.findKey,run_underlying]
theorem Uz(aw:lh σ B h w)(rE:vd H h)(qb:og H){m iw:Value}{T:List Value}(hm:ch σ m iw)(bd:Cx m H=some T):
  (m=.map none/\iw=.map none/\T=[])\/∃id c o s aJ n r,m=.map (some id)/\iw=.map (some c)/\eD H.dI id=some r/\mK r=true/\r.T=T/\σ id=some (c,o,s)/\w.heap[c]?=some (.map aJ n)/\bH σ T (AX aJ):=by
 unfold Cx at bd;split at bd;split at bd;cases bd;cases hm;simp_all;rename_i id;split at bd;rename_i r aE;split at bd;rename_i Fs;cases bd;obtain⟨_,_,c,o,s,aJ,n,h1,_,h2,aB⟩:=aw.map rE qb aE Fs;cases hm
 simp_all
 grind
 grind
 grind
theorem aji(aw:lh σ B h w)(rE:vd H h)(qb:og H){t:TypeId}{ok:Bool}{m iw key oW v:Value}(hm:ch σ m iw)(ag:ch σ key oW)(U:vV P t ok m key H=some (v,aa)):
  aa=H/\∃aH,(Instr.lookup t iw oW ok).run P w=.ok aH w/\ch σ v aH:=by
 unfold vV at U;split at U
 case h_2=>cases U
 case h_1 bl e oc=>
 split at U
 case h_2=>cases U
 case h_1 z dQ=>
 split at U
 case h_2=>cases U
 case h_1 T bd=>
 obtain⟨vf,jr,C3,A2,qP⟩:=Uy oc;have IF:jr=.string\/∃k,jr=.int k:=by grind
 obtain⟨aJ,qc,ta⟩:∃aJ:Array MapEntry,bH σ T (AX aJ)/\∀x,Instr.findNow jr oW aJ.toList 0=some x->(Instr.lookup t iw oW ok).run P w=((match x with
   | some (_,v)=>pure (v,true)
   | none=>do pure (<- zeroValue e,false):Sem (Value×Bool)).run P w).andThen fun p aV=>.ok (if ok then .tuple #[p.1,.bool p.2]else p.1) aV:=by
  rcases Uz aw rE qb hm bd with⟨_,rfl,rfl⟩|⟨id,c,o,s,aJ,n,r,_,rfl,_,_,_,_,h2,aB⟩
  ·refine⟨#[],.nil,fun x al=>?_⟩;unfold Instr.lookup;simp only[Sem.run_bind,run_underlying C3,Result.andThen_ok,Sem.run_pure,Nu A2 IF,Nv A2 al];cases x with
   | none=>simp_all[s6]
   | some y=>rfl
  ·refine⟨aJ,aB,fun x al=>?_⟩;unfold Instr.lookup;simp only[Sem.run_bind,run_underlying C3,Result.andThen_ok,Ux h2,Sem.run_pure,Nu A2 IF,Nv A2 al];cases x with
   | none=>simp_all[s6]
   | some y=>rfl
 split at U
 ·rename_i v0 hf;cases U;have ajj:=ID ag qP aJ.toList T _ 0 qc hf;obtain⟨j,aH,h1,h2⟩:=ajj;refine⟨rfl,Cy ok aH true,?_,?_⟩
  ·rw[ta _ h1];simp only[Sem.run_pure,Result.andThen_ok];cases ok<;>rfl
  ·cases ok
   ·exact h2
   ·exact .tuple _ _ (h2.cons (.bool true .nil)) .nil
 ·rename_i hf;cases U;have h1:=ID ag qP aJ.toList T _ 0 qc hf;obtain⟨lA,oU⟩:=s6 dQ w;refine⟨rfl,Cy ok z false,?_,?_⟩
  ·rw[ta _ h1];simp only[Sem.run_bind,lA,Sem.run_pure,Result.andThen_ok];cases ok<;>rfl
  ·cases ok
   ·exact u2 oU
   ·exact .tuple _ _ ((u2 oU).cons (.bool false .nil)) .nil
 grind
theorem IG(aw:lh σ B h w)(rE:vd H h)(qb:og H){t:TypeId}{m iw key oW x bK v:Value}(hm:ch σ m iw)(ag:ch σ key oW)(al:ch σ x bK)(U:tK P t m key x H=some (v,aa)):
  v=undef/\gh H aa/\∃aV,(Instr.mapUpdate t iw oW bK).run P w=.ok () aV/\i6 B σ h H.next w σ (e1 h H aa) aa.next aV:=by
 unfold tK at U;split at U
 case h_2=>cases U
 case h_1 bl e oc=>
 split at U
 case h_2=>cases U
 case h_1 e2=>
 split at U
 case h_2=>cases U
 case h_1 id=>
 split at U
 case h_2=>cases U
 case h_1 lB=>
 split at U
 case h_2=>cases U
 case h_1 T bd=>
 split at U
 case h_2=>cases U
 case h_1 hf=>
 obtain⟨vf,jr,C3,A2,qP⟩:=Uy oc;have IF:jr=.string\/∃k,jr=.int k:=by grind
 rcases Uz aw rE qb hm bd with⟨aN,_⟩|⟨tO,c,o,s,aJ,n,r,aN,rfl,aE,Fs,_,dU,hh,qc⟩
 ·cases aN
 cases aN;cases U;have lB:H.dB<=id:=le_of_ble_eq_true lB;have h1:=ID ag qP aJ.toList T _ 0 qc hf;have Nw:bH σ (T++[key,x]) (AX (aJ.push {key:=oW,val:=bK,born:=n})):=by unfold AX;rw[Array.toList_push,flatMap_append];exact qc.append (ag.cons (al.cons .nil))
 refine⟨rfl,Uw lB aE,w.putObj c (.map (aJ.push {key:=oW,val:=bK,born:=n}) (n+1)),?_,?_⟩
 ·unfold Instr.mapUpdate;rw[Sem.run_bind,run_underlying C3,Result.andThen_ok];simp only[Sem.run_bind,Ux hh,Result.andThen_ok,Nu A2 IF,Nv A2 h1,ajh _ hh]
 ·exact ajb aw rE qb aE Fs rfl dU (by grind[jN,iv])
theorem ajk{t:TypeId}{ok:Bool}{m key v:Value}(U:vV P t ok m key H=some (v,aa)):gh H aa:=by
 unfold vV at U
 grind[gh.refl]
theorem ajl{id:Nat}{T:List Value}(h:Cx (.map (some id)) H=some T):∃r,eD H.dI id=some r/\mK r=true/\r.T=T:=by
 have h:(match eD H.dI id with|some r=>(match mK r with|true=>some r.T|false=>none)|none=>none)=some T:=h
 grind
theorem UA{t:TypeId}{m key x v:Value}(U:tK P t m key x H=some (v,aa)):gh H aa:=by
 unfold tK at U;split at U
 case h_2=>cases U
 case h_1 bl e oc=>
 split at U
 case h_2=>cases U
 grind[ajl,Uw,le_of_ble_eq_true]
end
end Go.Ab
namespace Go.Ab
open Go
variable[hD]
section
variable{P:Program}{B:Nat}{σ:cO}{h:Nat->Option Obj}{H aa:ar}{w:World}{self:hz}
theorem Ft{x:Option vW}{v:Value}(U:tM self x H=some (v,aa)):∃t cJ,x=some t/\self (HU H t)=some ⟨cJ,[v],aa⟩:=by
 unfold tM at U
 grind
theorem C4(bE:h3 P self){op:Op}{T:List Value}{v:Value}(hf:H.dB<=H.next)(U:(iK P op).f self T H=some (v,aa)):gh H aa:=by
 have call:∀x,tM self x H=some (v,aa)->gh H aa:=by intro x al;obtain⟨t,cJ,_,aw⟩:=Ft al;have:=bE.kt _ _ aw;cases t<;>exact this hf
 unfold iK at U;split at U
 case h_2=>cases U
 case h_1=>
 unfold xe at U;split at U
 ·rename_i c;split at U
  ·exact(It hf U).Us
  ·grind
  grind
 ·grind[ai8]
 ·exact ajk U
 ·exact UA U
 ·exact UA U
 ·exact(It hf U).Us
theorem ajm(c:Call)(cW:TypeId)(a:Act)(f:FuncId)(first cap:Array Value)(aL:Operand)(aD:c.callee=.value aL)(hf:a.eval aL=.func (.func f) first cap)(w:World):
  (do let d<-resolve a.eval c cW;invoke d.target d.args:Sem Next).run P w=(callFunc f (first++c.args.map a.eval++cap)).run P w:=by
 simp_all[resolve,Deferred.ofValue,invoke]
theorem ajn(c:Call)(cW:TypeId)(a:Act)(l:Nat)(aL:Operand)(aD:c.callee=.value aL)(hf:a.eval aL=.func (.yield l) #[] #[])(w:World):
  (do let d<-resolve a.eval c cW;invoke d.target d.args:Sem Next).run P w=(Instr.yield l (c.args.map a.eval)).run P w:=by
 simp_all[resolve,Deferred.ofValue,invoke]
theorem Nx(dA:c8 P)(bE:h3 P self)(o:Oper){T:List Value}{a:Act}{v:Value}{r:Option Nat}(aw:lh σ B h w)(dP:B<=w.heap.size)(er:yZ P σ)
  (jq:(iu P o.op=1\/iu P o.op=4)->∀x∈o.op.operands.toList,∀id,CA ((dT x).g T)=some id->∀b,H.cI id=some b->h id=some b) (qb:og H) (lB:H.dB<=H.next) (fY:iu P o.op=3->gS P B σ h H w) (cH:gq σ H.next aa.next) (bd:bH σ T a.tmps.toList)
  (U:(iK P o.op).f self T H=some (v,aa)) {next:Act->World->Prop} {Q:Exit->Act->World->Prop}
  (aR:∀aH τ aV,ch τ v aH->i6 B σ h H.next w τ (e1 h H aa) aa.next aV->next (a.put o.dst aH) aV):o.wpIn (ei r) 0 P a w next Q:=by
 refine⟨fun _ _=>trivial,?_⟩;unfold iK at U;split at U
 case h_2=>cases U
 case h_1 eL=>
 have ajo:(∀c,o.op≠.defer c)->(jc P o.op).f T H=some (v,aa)->o.uponIn (ei r) 0 P a next Q ((o.semAt (ei r).round a.eval).run P w):=by
  intro aO jo;rw[Oper.semAt_eq _ _ _ aO];obtain⟨mT,aH,aV,τ,h1,h2,aB,bk⟩:=aiI (P:=P) o aw.cells dP er bd cH eL (fun ag x al id eW b an=>wc.2 (jq ag x al id eW _ (by simp_all[ar.cI]))) jo;have m:=It lB jo;have bk:=i6.CY aw bk m.cr (m.si qb);rw[h1];rcases h2 with rfl|⟨rfl,rfl⟩
  ·exact aR aH τ aV aB bk
  ·exact aR undef τ aV aB bk
 have UB:∀f args fN cJ,iu P o.op=3->(∃c,o.op=.call c)->(execOp a.eval o).run P w=(callFunc f fN).run P w->self (.call f args H)=some ⟨cJ,[v],aa⟩->bH σ args fN.toList->o.uponIn (ei r) 0 P a next Q ((o.semAt (ei r).round a.eval).run P w):=by intro f args fN cJ xy ⟨pw,IH⟩ he vg hv;obtain⟨⟨fn,c,hf,an⟩,aD⟩:=bE.call f args H cJ v aa vg B σ h w fN (fY xy) cH hv;rw[Oper.semAt_eq _ _ _ (by simp_all),he,IA dA hf an];rw[Oper.uponIn_enter];refine⟨fun aO=>absurd aO (by simp),?_⟩;have:CallsIn (ei r) 0 P f fN w (fun e aV=>∃aH τ a6,e=.returned aH/\ch τ v aH/\fx B σ h H w τ a6 aa aV):=aD;refine CallsIn.mono this ?_;rintro e aV ⟨aH,τ,a6,rfl,h1,h2⟩;exact aR aH τ aV h1 (h2.gO.Iz h2.xt)
 rw[j0,all_eq_true]at eL;have UC:∀ {t:TypeId} {m oX x:Operand},iu P o.op=3->o.op.operands=#[m,oX,x]->(∀c,o.op≠.defer c)->execOp a.eval o=(do Instr.mapUpdate t (a.eval m) (a.eval oX) (a.eval x);pure .skip)->tK P t ((dT m).g T) ((dT oX).g T) ((dT x).g T) H=some (v,aa)->o.uponIn (ei r) 0 P a next Q ((o.semAt (ei r).round a.eval).run P w):=by intro t m oX x xy UD aO oh bc;have k:=fY xy;obtain⟨rfl,hm,aV,h1,h2⟩:=IG aw k.sub qb (u9 (P:=P) bd er m (eL m (by simp_all))) (u9 (P:=P) bd er oX (eL oX (by simp_all))) (u9 (P:=P) bd er x (eL x (by simp_all))) bc;rw[Oper.semAt_eq _ _ _ aO,oh];simp only[Sem.run_bind,h1,Result.andThen_ok,Sem.run_pure,Oper.uponIn_skip];exact aR undef σ aV .undef h2
 unfold xe at U;split at U
 case h_6 UE ajp aCB aCC da=>refine ajo ?_ U;intro c e;rw[e]at U;cases U
 case h_2 t mT jo=>
  split at U
  case h_2=>cases U
  case h_1=>
  cases U;have xy:iu P o.op=3:=by simp_all[iu]
  have k:=fY xy;obtain⟨τ,b7,ca⟩:=ai9 aw dP qb (cH _ (Nat.le_refl _) (lt_succ_self _)) trivial;rw[Oper.semAt_eq _ _ _ (by simp_all)];have oh:(execOp a.eval o).run P w=.ok (.value (.map (some w.heap.size))) (w.alloc (.map #[] 0)):=by simp_all[execOp,Instr.makeMap]
  grind[Oper.uponIn_value]
 case h_3 t x i ok jo=>
  have xy:iu P o.op=3:=by simp_all[iu]
  have k:=fY xy;obtain⟨rfl,aH,h1,h2⟩:=aji aw k.sub qb (u9 (P:=P) bd er x (eL x (by simp_all[Op.operands]))) (u9 (P:=P) bd er i (eL i (by simp_all[Op.operands]))) U;rw[Oper.semAt_eq _ _ _ (by simp_all)];have oh:(execOp a.eval o).run P w=.ok (.value aH) w:=by simp_all[execOp]
  rw[oh,Oper.uponIn_value];refine aR aH σ w h2 ?_
  simp_all[C1,i6.refl]
 case h_4 t m oX x jo=>exact UC (by simp_all[iu]) (by rw[jo];rfl) (by simp_all) (by simp_all[execOp]) U
 case h_5 t m oX x jo=>exact UC (by simp_all[iu]) (by rw[jo];rfl) (by simp_all) (by simp_all[execOp]) U
 case h_1 c jo=>
  have oh:execOp a.eval o=(do let d<-resolve a.eval c o.type;invoke d.target d.args:Sem Next):=by simp_all[execOp]
  have A3:bH σ (j8 c.args.toList T) (c.args.map a.eval).toList:=by
   have:=Is (P:=P) bd er c.args.toList fun y a8=>eL y (by simp_all[Op.operands,Call.operands])
   simp_all
  split at U
  case h_1 b an=>simp_all
  case h_2 aL aD=>
   obtain⟨t,cJ,al,vg⟩:=Ft U;have C5:=u9 (P:=P) bd er aL (eL aL (by simp_all[Op.operands,Call.operands]));unfold tL at al;split at al
   case h_2=>cases al
   case h_1 fn first cap mo=>
   split at al
   case h_3=>cases al
   case h_2 l=>
    split at al
    case h_2=>cases al
    case h_1=>
    cases al;rw[mo]at C5;generalize qQ:a.eval aL=fv at C5;cases C5;rename_i cc MR gi dU _ _;obtain⟨fn,tmps,cS,body,a8,aQ⟩:=bE.round l _ H cJ v aa vg B σ h w (c.args.map a.eval) cc MR gi r (fY (by simp_all[iu])) cH A3 dU;rw[Oper.semAt_eq _ _ _ (by simp_all),oh,ajn c o.type a cc aL aD qQ w,a8,Oper.uponIn_round];refine⟨fun aO=>absurd aO (by simp),RoundIn.mono aQ ?_⟩;rintro e aV ⟨aH,τ,a6,rfl,h1,h2⟩;exact aR aH τ aV h1 (h2.gO.Iz h2.xt)
   case h_1 g=>
   cases al;rw[mo]at C5;generalize qQ:a.eval aL=fv at C5;cases C5;rename_i xz ua ajq Ny _;refine UB g _ (xz++c.args.map a.eval++ua) cJ (by simp_all[iu]) ⟨c,jo⟩ ?_ vg ?_
   ·grind[ajm]
   ·rw[iv,iv];simp only[Array.toList_append];rw[append_assoc];exact ajq.append (A3.append Ny)
  case h_3 Nz name aD=>
   obtain⟨tt,cJ,al,vg⟩:=Ft U;have NA:=u9 (P:=P) bd er Nz (eL Nz (by simp_all[Op.operands,Call.operands]));unfold Mm at al;split at al
   case h_2=>cases al
   case h_1 t u ajr=>
   split at al
   case h_2=>cases al
   case h_1 pD ai hm=>
   split at al
   case h_2=>cases al
   case h_1 b bS=>
   split at al
   case isFalse=>cases al
   case isTrue UF=>
   cases al;rw[ajr]at NA;generalize qQ:a.eval Nz=fK at NA;cases NA;rename_i od bc _;have UF:b=ai:=by simp_all
   subst UF;refine UB pD _ (#[od]++c.args.map a.eval) cJ (by simp_all[iu]) ⟨c,jo⟩ ?_ vg ?_
   ·rw[oh];have ajs:∀fN:Array Value,invoke (.fn (.method name) #[]) (#[Value.iface t od]++fN)=callMethod (.iface t od) name fN:=by
     intro fN;have ic:(#[Value.iface t od]++fN)[0]?=some (.iface t od):=by grind
     have bb:(#[Value.iface t od]++fN).extract 1 (#[Value.iface t od]++fN).size=fN:=by simp_all
     grind[invoke]
    simp only[resolve,aD,qQ,Sem.run_bind,Sem.run_pure,Result.andThen_ok,ajs];simp only[callMethod,Sem.run_bind,run_program,Result.andThen_ok];have NB:=ai5 (P:=P) hm bS od w (P.types.size+Made.depth-1)
    simp_all[Made.depth]
   ·simp only[Array.toList_append];exact bc.cons A3
theorem II(dA:c8 P)(bE:h3 P self)(o:Oper){T:List Value}{a:Act}{v:Value}{r:Option Nat}(k:gS P B σ h H w)(cH:gq σ H.next aa.next)(bd:bH σ T a.tmps.toList)
  (U:(iK P o.op).f self T H=some (v,aa)) {next:Act->World->Prop} {Q:Exit->Act->World->Prop}
  (aR:∀aH τ a6 aV,ch τ v aH->fx B σ h H w τ a6 aa aV->next (a.put o.dst aH) aV):o.wpIn (ei r) 0 P a w next Q:=
 Nx dA bE o k.fD k.dP k.Np (fun _ _ _ id _ b an=>k.sub id b an) k.wf k.ck (fun _=>k) cH bd U fun aH τ aV hv g=>aR aH τ _ aV hv (fx.ai4 k g (C4 bE k.ck U))
theorem ud(bE:h3 P self)(all:List Oper):∀(l:List Oper) (T:List Value) (H:ar) (aS:dY),H.dB<=H.next->jd P self all l T H=some aS->gh H aS.H/\aS.cJ=.normal
 | [],T,H,aS,_,U=>by cases U;exact⟨gh.refl H,rfl⟩
 | o::l,T,H,aS,hf,U=>by have gg:gw P self o ((ia all o.guard).f T) T H (jd P self all l)=some aS:=U;unfold gw at gg;split at gg;split at gg;rename_i v br aw;have m:=C4 bE hf aw;have a7:=ud bE all l _ br aS (m.wf hf) gg;exact⟨m.trans a7.1,a7.2⟩;cases gg;exact ud bE all l _ H aS hf gg
theorem Fu(dA:c8 P)(bE:h3 P self)(bf:Array Oper)(r:Option Nat){Q:Exit->Act->World->Prop}:∀(l:List Oper) (i:Nat),bf.toList.drop i=l->
  ∀(σ:cO) (h:Nat->Option Obj) (T:List Value) (H:ar) (w:World) (a:Act) (aS:dY),gS P B σ h H w->gq σ H.next aS.H.next->bH σ T a.tmps.toList->jd P self bf.toList l T H=some aS->
  (∀ τ a6 cq aV,bH τ aS.T cq.tmps.toList->cq.defers=a.defers->fx B σ h H w τ a6 aS.H aV->Q .normal cq aV)->wpOpsIn (ei r) 0 P bf Q (List.range' i l.length) a w
 | [],i,aE,σ,h,T,H,w,a,aS,k,cH,bd,U,cf=>by cases U;exact cf σ h a w bd rfl (fx.refl k)
 | o::l,i,aE,σ,h,T,H,w,a,aS,k,cH,bd,U,cf=>by
  have bC:bf[i]?=some o:=by
   have:(bf.toList.drop i)[0]?=some o:=by rw[aE];rfl
   simpa using this
  have vh:bf.toList.drop (i+1)=l:=by
   have:(bf.toList.drop i).drop 1=l:=by rw[aE];rfl
   rwa [drop_drop]at this
  have gg:gw P self o ((ia bf.toList o.guard).f T) T H (jd P self bf.toList l)=some aS:=U;unfold gw at gg;simp only[length_cons,List.range'_succ,wpOpsIn,bC];have aM:=Uv bd (bf:=bf) o;split at gg;rename_i C6;rw[C6]at aM;rw[if_pos aM];split at gg;rename_i v br aw;have fk:=C4 bE k.ck aw;have dE:=ud bE bf.toList l _ br aS (fk.wf k.ck) gg;refine II dA bE o k (cH.left dE.1.eu) bd aw ?_;intro aH τ a6 aV hv st;obtain⟨cC,bw⟩:=wg (σ:=τ) (bd.mono st.gO.mono) o.dst hv;refine Fu dA bE bf r l (i+1) vh τ a6 _ br aV _ aS (k.next st) (cH.right st.gO) cC gg ?_;intro iV h2 cq e0 bO q2 dz;exact cf iV h2 cq e0 bO (q2.trans bw) (st.trans k (cH.left dE.1.eu) dz);cases gg;rename_i C6;rw[C6]at aM;rw[if_neg (by rw[aM];simp)];refine⟨fun _ _=>trivial,?_⟩;obtain⟨cC,bw⟩:=wg bd o.dst (ch.undef (σ:=σ));refine Fu dA bE bf r l (i+1) vh σ h _ H w _ aS k cH cC gg ?_;intro iV h2 cq e0 bO q2 dz;exact cf iV h2 cq e0 bO (q2.trans bw) dz
end
end Go.Ab
namespace Go.Ab
open Go
variable[hD]
theorem ajt{h:Nat->Option Obj}{A hE B dj:ar}(aO:∀id,hE.cI id=A.cI id\/dj.cI id=B.cI id):e1 (e1 h A hE) B dj=e1 (e1 h B dj) A hE:=by grind[e1]
theorem NC{T:List Value}{d:Option Tmp}{v:Value}{t:Nat}(h:d≠some t):b4 (hZ T d v) t=b4 T t:=by
 cases d with
 | none=>rfl
 | some d=>
  show b4 (gJ T d v) t=_
  simp_all[oS,oR]
theorem aju{A C:List Value}{d:Option Tmp}{v:Value}{t:Nat}(h:b4 A t=b4 C t)(aE:A.length=C.length):b4 (hZ A d v) t=b4 (hZ C d v) t:=by
 by_cases aO:d=some t;subst aO;show b4 (gJ A t v) t=b4 (gJ C t v) t
 grind[oS,oR]
 simp_all[NC]
theorem IJ{T:List Value}{d:Option Tmp}{v:Value}:(hZ T d v).length=T.length:=by
 cases d with
 | none=>rfl
 | some d=>show(gJ T d v).length=_;simp_all[oS]
theorem ajv{T:List Value}{d e:Option Tmp}{v u:Value}(h:∀x,d=some x->e≠some x):hZ (hZ T d v) e u=hZ (hZ T e u) d v:=by
 cases d with
 | none=>rfl
 | some d=>
  cases e with
  | none=>rfl
  | some e=>
   show gJ (gJ T d v) e u=gJ (gJ T e u) d v
   simp_all[oS,set_comm]
structure gr where
 o:Oper
 p:mN
 T:List Value
 H:ar
 v:Value
 aa:ar
 w:Bool
noncomputable def gr.ku(e:gr):lQ:=s0 e.o e.p e.T e.H e.aa
noncomputable def iM(S:Nat->Bool):List Value->List gr->List Value
 | T,[]=>T
 | T,e::r=>iM S (if S e.p.cm then hZ T e.o.dst e.v else T) r
noncomputable def iy(S:Nat->Bool):(Nat->Option Obj)->List gr->(Nat->Option Obj)
 | h,[]=>h
 | h,e::r=>iy S (if S e.p.cm then e1 h e.H e.aa else h) r
noncomputable def qd:List Value->ar->List gr->List Value->ar->Prop
 | T,H,[],dW,aa=>T=dW/\H=aa
 | T,H,e::r,dW,aa=>e.T=T/\e.H=H/\qd (hZ T e.o.dst e.v) e.aa r dW aa
theorem ND(S:Nat->Bool)(a b:List gr):∀T,iM S T (a++b)=iM S (iM S T a) b:=by
 induction a with
 | nil=>intro T;rfl
 | cons e r a7=>intro T;exact a7 _
theorem UG(S:Nat->Bool)(a b:List gr):∀h,iy S h (a++b)=iy S (iy S h a) b:=by
 induction a with
 | nil=>intro T;rfl
 | cons e r a7=>intro T;exact a7 _
theorem qd.split{T dW:List Value}{H aa:ar}{a:List gr}{e:gr}{b:List gr}(c:qd T H (a++e::b) dW aa):qd T H a e.T e.H/\qd (hZ e.T e.o.dst e.v) e.aa b dW aa:=by
 induction a generalizing T H with
 | nil=>obtain⟨h1,h2,aB⟩:=c;subst h1;subst h2;exact⟨⟨rfl,rfl⟩,aB⟩
 | cons x r a7=>obtain⟨h1,h2,aB⟩:=c;obtain⟨i1,jR⟩:=a7 aB;exact⟨⟨h1,h2,i1⟩,jR⟩
theorem UH{S:Nat->Bool}{id:Nat}:∀ {pre:List gr} {T dW:List Value} {H aa:ar} {h:Nat->Option Obj},qd T H pre dW aa->(∀k∈pre,S k.p.cm=false->k.aa.cI id=k.H.cI id)->(∀b,H.cI id=some b->h id=some b)->
  ∀b,aa.cI id=some b->iy S h pre id=some b
 | [],_,_,_,_,_,c,_,aN,b,an=>by obtain⟨_,rfl⟩:=c;exact aN b an
 | e::r,T,dW,H,aa,h,c,aR,aN,b,an=>by
  obtain⟨rfl,rfl,c⟩:=c;show iy S (if S e.p.cm then e1 h e.H e.aa else h) r id=some b;refine UH c (fun k ag=>aR k (by simp[ag])) (fun b an=>?_) b an;by_cases bE:S e.p.cm=true;simp only[bE,if_true]
  grind[e1]
  grind
theorem UI{S:Nat->Bool}{id:Nat}:∀ {post:List gr} {h:Nat->Option Obj},(∀k∈post,S k.p.cm=true->k.aa.cI id=k.H.cI id)->iy S h post id=h id
 | [],_,_=>rfl
 | e::r,h,aR=>by
  show iy S (if S e.p.cm then e1 h e.H e.aa else h) r id=h id;rw[UI (fun k ag=>aR k (by simp[ag]))];split
  simp_all[e1]
  rfl
theorem ajw{S:Nat->Bool}{id:Nat}{pre post:List gr}{j:gr}{T dW:List Value}{H aa:ar}{h:Nat->Option Obj}(c:qd T H (pre++j::post) dW aa)(bh:S j.p.cm=false)
  (h1:∀k∈pre,S k.p.cm=false->k.aa.cI id=k.H.cI id) (h2:∀k∈post,S k.p.cm=true->k.aa.cI id=k.H.cI id) (aN:∀b,H.cI id=some b->h id=some b):
  ∀b,j.H.cI id=some b->iy S h (pre++j::post) id=some b:=by
 intro b an;rw[UG];show iy S (if S j.p.cm then e1 _ j.H j.aa else iy S h pre) post id=some b;rw[UI h2];simp only[bh,Bool.false_eq_true,if_false];exact UH c.split.1 h1 aN b an
theorem UJ{S:Nat->Bool}{A hE:ar}:∀ {post:List gr} {h:Nat->Option Obj},(∀k∈post,S k.p.cm=true->∀id,hE.cI id=A.cI id\/k.aa.cI id=k.H.cI id)->iy S (e1 h A hE) post=e1 (iy S h post) A hE
 | [],_,_=>rfl
 | e::r,h,aR=>by
  show iy S (if S e.p.cm then e1 (e1 h A hE) e.H e.aa else e1 h A hE) r=e1 (iy S (if S e.p.cm then e1 h e.H e.aa else h) r) A hE;have a7:=fun h=>UJ (S:=S) (A:=A) (hE:=hE) (post:=r) (h:=h) (fun k ag=>aR k (by simp[ag]))
  split;rename_i bE;rw[ajt (aR e (by simp) bE),a7];exact a7 h
theorem UK{S hS:Nat->Bool}:∀ {l:List gr} {h:Nat->Option Obj},(∀k∈l,hS k.p.cm=S k.p.cm)->iy hS h l=iy S h l
 | [],_,_=>rfl
 | e::r,h,aR=>by simp_all[iy,UK]
theorem ajx{S hS:Nat->Bool}{pre post:List gr}{j:gr}{h:Nat->Option Obj}(bh:S j.p.cm=false)(oT:hS j.p.cm=true)(aw:∀k∈pre++post,hS k.p.cm=S k.p.cm)
  (aR:∀k∈post,S k.p.cm=true->∀id,j.aa.cI id=j.H.cI id\/k.aa.cI id=k.H.cI id):iy hS h (pre++j::post)=e1 (iy S h (pre++j::post)) j.H j.aa:=by
 simp_all[UG,iy,UK,UJ]
theorem NF{S:Nat->Bool}{t:Nat}:∀ {pre:List gr} {T dW A:List Value} {H aa:ar},qd T H pre dW aa->(∀k∈pre,S k.p.cm=false->k.o.dst≠some t)->b4 A t=b4 T t->A.length=T.length->
  b4 (iM S A pre) t=b4 dW t/\(iM S A pre).length=dW.length
 | [],_,_,_,_,_,c,_,aN,aE=>by obtain⟨rfl,_⟩:=c;exact⟨aN,aE⟩
 | e::r,T,dW,A,H,aa,c,aR,aN,aE=>by
  obtain⟨rfl,rfl,c⟩:=c;show b4 (iM S (if S e.p.cm then hZ A e.o.dst e.v else A) r) t=b4 dW t/\(iM S (if S e.p.cm then hZ A e.o.dst e.v else A) r).length=_;by_cases bE:S e.p.cm=true;simp only[bE,if_true];exact NF c (fun k ag=>aR k (by simp[ag])) (aju aN aE) (by rw[IJ,IJ,aE]);have bE:S e.p.cm=false:=by simpa using bE
  simp only[bE,Bool.false_eq_true,if_false];exact NF c (fun k ag=>aR k (by simp[ag])) (by rw[NC (aR e (by simp) bE),aN]) (by rw[IJ,aE])
theorem UL{S:Nat->Bool}{t:Nat}:∀ {post:List gr} {A:List Value},(∀k∈post,S k.p.cm=true->k.o.dst≠some t)->b4 (iM S A post) t=b4 A t
 | [],_,_=>rfl
 | e::r,A,aR=>by show b4 (iM S (if S e.p.cm then hZ A e.o.dst e.v else A) r) t=b4 A t;rw[UL (fun k ag=>aR k (by simp[ag]))];split;rename_i bE;exact NC (aR e (by simp) bE);rfl
theorem ajy{S:Nat->Bool}{t:Nat}{pre post:List gr}{j:gr}{T dW:List Value}{H aa:ar}(c:qd T H (pre++j::post) dW aa)(bh:S j.p.cm=false)
  (h1:∀k∈pre,S k.p.cm=false->k.o.dst≠some t) (h2:∀k∈post,S k.p.cm=true->k.o.dst≠some t):b4 (iM S T (pre++j::post)) t=b4 j.T t:=by
 rw[ND];show b4 (iM S (if S j.p.cm then _ else iM S T pre) post) t=_;rw[UL h2];simp only[bh,Bool.false_eq_true,if_false];exact(NF c.split.1 h1 rfl rfl).1
theorem UM{S:Nat->Bool}{d:Option Tmp}{v:Value}:∀ {post:List gr} {A:List Value},(∀k∈post,S k.p.cm=true->∀x,d=some x->k.o.dst≠some x)->iM S (hZ A d v) post=hZ (iM S A post) d v
 | [],_,_=>rfl
 | e::r,A,aR=>by
  show iM S (if S e.p.cm then hZ (hZ A d v) e.o.dst e.v else hZ A d v) r=hZ (iM S (if S e.p.cm then hZ A e.o.dst e.v else A) r) d v;have a7:=fun A=>UM (S:=S) (d:=d) (v:=v) (post:=r) (A:=A) (fun k ag=>aR k (by simp[ag]))
  split;rename_i bE;rw[ajv (aR e (by simp) bE),a7];exact a7 A
theorem UN{S hS:Nat->Bool}:∀ {l:List gr} {A:List Value},(∀k∈l,hS k.p.cm=S k.p.cm)->iM hS A l=iM S A l
 | [],_,_=>rfl
 | e::r,A,aR=>by simp_all[iM,UN]
theorem ajz{S hS:Nat->Bool}{pre post:List gr}{j:gr}{T:List Value}(bh:S j.p.cm=false)(oT:hS j.p.cm=true)(aw:∀k∈pre++post,hS k.p.cm=S k.p.cm)
  (aR:∀k∈post,S k.p.cm=true->∀x,j.o.dst=some x->k.o.dst≠some x):iM hS T (pre++j::post)=hZ (iM S T (pre++j::post)) j.o.dst j.v:=by
 rw[ND,ND];show iM hS (if hS j.p.cm then hZ (iM hS T pre) j.o.dst j.v else _) post=hZ (iM S (if S j.p.cm then _ else iM S T pre) post) j.o.dst j.v
 simp_all[UN,UM]
theorem vi(m i:Nat):hR m i=m.testBit i:=by
 have h1:Nat.land (Nat.shiftRight m i) 1=(m>>>i)%2:=and_one_is_mod (m>>>i)
 grind[hR,Nat.shiftRight_eq_div_pow,eq_of_beq_eq_true,ne_of_beq_eq_false]
def y1(all:List Oper)(S:Nat->Bool):Prop:=∀(i:Nat) (o:Oper),all[i]?=some o->S i=true->∀e∈o.after.toList,Region.binds .any e=true->S e.on=true
theorem ajA(ms:List Nat)(o:Oper)(k:Nat)(ag:hR (HV ms o) k=true):∃e∈o.after.toList,Region.binds .any e=true/\(k=e.on\/∃m,ms[e.on]?=some m/\hR m k=true):=by
 unfold HV at ag;have Ib:∀(l:List Edge) (s:Nat),hR (l.foldl (fun s e=>match Region.binds .any e with
   | true=>Nat.lor s (Nat.lor (Nat.shiftLeft 1 e.on) (match nY ms e.on with|some m=>m|none=>0))
   | false=>s) s) k=true->hR s k=true\/∃e∈l,Region.binds .any e=true/\(k=e.on\/∃m,ms[e.on]?=some m/\hR m k=true):=by
  intro l;induction l with
  | nil=>simp_all
  | cons e r a7=>
   intro s h;rcases a7 _ h with h|⟨MZ,h1,h2⟩
   simp only at h;cases an:Region.binds .any e with
   | false=>simp_all
   | true=>
    rw[an]at h;simp only[vi]at h;rw[show∀a b:Nat,Nat.lor a b=a|||b from fun _ _=>rfl,show∀a b:Nat,Nat.lor a b=a|||b from fun _ _=>rfl,testBit_or,testBit_or]at h;simp only[Bool.or_eq_true]at h;rcases h with h|h|h
    simp_all[vi]
    right;refine⟨e,by simp,an,.inl ?_⟩;have:Nat.shiftLeft 1 e.on=1<<<e.on:=rfl;rw[this,testBit_shiftLeft]at h;simp only[Bool.and_eq_true,decide_eq_true_eq]at h
    grind[testBit_one_eq_true_iff_self_eq_zero]
    right;refine⟨e,by simp,an,.inr ?_⟩;rw[u1]at h;cases hm:ms[e.on]? with
    | none=>simp_all
    | some m=>simp_all[vi]
   grind
 rcases Ib _ _ ag with h|h
 simp_all[vi]
 exact h
def Fv(all:List Oper)(i m:Nat):Prop:=∀S,y1 all S->∀k,hR m k=true->∃o,all[i]?=some o/\((∀e∈o.after.toList,Region.binds .any e=true->S e.on=true)->S k=true)
theorem UO(all:List Oper):∀(l:List Oper) (ms:List Nat),all.drop ms.length=l->(∀i m,ms[i]?=some m->Fv all i m)->∀i m,(EV ms l)[i]?=some m->Fv all i m
 | [],ms,_,hm,i,m,h=>hm i m h
 | o::l,ms,aE,hm,i,m,h=>by
  have bC:all[ms.length]?=some o:=by
   have:(all.drop ms.length)[0]?=some o:=by rw[aE];rfl
   simpa using this
  refine UO all l (hP ms [HV ms o]) ?_ ?_ i m h;rw[iv,length_append];have:(all.drop ms.length).drop 1=l:=by rw[aE];rfl
  rwa [drop_drop]at this
  intro j q cf;rw[iv]at cf;by_cases bh:j<ms.length;rw[List.getElem?_append_left bh]at cf;exact hm j q cf;rw[List.getElem?_append_right (by omega)]at cf;have:j-ms.length=0:=by
   rcases eq_zero_or_pos (j-ms.length)with aN|aN
   exact aN;rw[List.getElem?_eq_none (by simp;omega)]at cf;cases cf
  rw[this]at cf;simp at cf;subst cf;obtain rfl:j=ms.length:=by omega
  intro S bE k ag;refine⟨o,bC,fun aO=>?_⟩;obtain⟨e,he,an,aD⟩:=ajA ms o k ag;rcases aD with rfl|⟨iw,MF,ajB⟩
  exact aO e he an;obtain⟨dd,Fw,vg⟩:=hm e.on iw MF S bE k ajB;exact vg (fun MZ xA jl=>bE e.on dd Fw (aO e he an) MZ xA jl)
theorem UP:∀(l:List Oper) (ms:List Nat) (i j:Nat) (x:Oper×Nat×Nat),(vX i l ms)[j]?=some x->l[j]?=some x.1/\x.2.1=i+j/\ms[j]?=some x.2.2
 | [],_,i,j,x,h=>by simp[vX]at h
 | o::r,[],i,j,x,h=>by simp[vX]at h
 | o::r,m::ms,i,j,x,h=>by
  cases j with
  | zero=>simp[vX]at h;subst h;exact⟨rfl,rfl,rfl⟩
  | succ j=>
   have a6:(vX (Nat.succ i) r ms)[j]?=some x:=by simpa [vX]using h
   obtain⟨h1,h2,aB⟩:=UP r ms _ j x a6;exact⟨by simpa using h1,by omega,by simpa using aB⟩
theorem ajC(l:List Oper):∀ms,(EV ms l).length=ms.length+l.length:=by
 induction l with
 | nil=>intro ms;rfl
 | cons o r a7=>grind[EV,iv]
theorem UQ:∀(l:List Oper) (ms:List Nat) (i:Nat),l.length=ms.length->(vX i l ms).length=l.length
 | [],[],_,_=>rfl
 | o::r,m::ms,i,h=>by simp[vX,UQ r ms _ (by simpa using h)]
theorem UR(l:List Oper):(Av l).length=l.length:=UQ _ _ _ (by rw[TG,ajC];simp)
theorem US(l:List Oper)(j:Nat)(x:Oper×Nat×Nat)(h:(Av l)[j]?=some x):l[j]?=some x.1/\x.2.1=j/\Fv l j x.2.2:=by obtain⟨h1,h2,aB⟩:=UP _ _ _ _ _ h;refine⟨h1,by omega,UO l l [] (by simp) (by simp) j _ aB⟩
section
variable{P:Program}{H:ar}
theorem UT{bg:hz}{op:Op}{T dW:List Value}(h:∀x∈op.operands.toList,(dT x).g T=(dT x).g dW):(iK P op).f bg T H=(iK P op).f bg dW H:=by
 unfold iK;split;unfold xe;split
 grind[Uo,Op.operands,Call.operands,CV,map_congr_left]
 grind
 simp_all[Op.operands]
 simp_all[Op.operands]
 simp_all[Op.operands]
 exact Uo h;rfl
end
end Go.Ab
namespace Go.Ab
open Go
variable[hD]
section
variable{P:Program}{bg:hz}
structure y2 (P:Program) (bg:hz) (all:List Oper) (e:gr):Prop where
 w:e.w=(ia all e.o.guard).f e.T
 lj:e.w=true->s4 P bg e.o e.p e.T e.H=some (e.v,e.aa)
 jZ:e.w=false->e.v=undef/\e.aa=e.H
def UU(k j:gr):Prop:=k.w=true->j.w=true->j.p.eF≠0->hR j.p.k6 k.p.cm=true\/s3 k.ku j.ku=true
theorem ajD{p:mN}{j:lQ}{dq:List lQ}(hf:EZ p j dq=true)(bh:j.eF≠0):∀k∈dq,hR p.k6 k.cm=true\/s3 k j=true:=by simp_all[EZ,j0]
theorem IK(all:List Oper):∀(l:List (Oper×mN)) (T:List Value) (H:ar) (dq:List lQ) (aS:dY),p3 P bg all l T H dq=some aS->
  aS.cJ=.normal/\∃aJ:List gr,qd T H aJ aS.T aS.H/\aJ.map (fun e=>(e.o,e.p))=l/\(∀e∈aJ,y2 P bg all e)/\aJ.Pairwise UU/\
   (∀e∈aJ,e.w=true->e.p.eF≠0->∀k∈dq,hR e.p.k6 k.cm=true\/s3 k e.ku=true)
 | [],T,H,dq,aS,U=>by cases U;exact⟨rfl,[],⟨rfl,rfl⟩,rfl,by simp,.nil,by simp⟩
 |(o,p)::l,T,H,dq,aS,U=>by
  have gg:rz P bg o p ((ia all o.guard).f T) T H dq (p3 P bg all l)=some aS:=U;unfold rz at gg;split at gg;rename_i aM;split at gg;rename_i v aa aw;split at gg;rename_i hf;obtain⟨aN,aJ,h1,h2,aB,bk,cj⟩:=IK all l _ _ _ aS gg;refine⟨aN,⟨o,p,T,H,v,aa,true⟩::aJ,⟨rfl,rfl,h1⟩,by simp[h2],?_,?_,?_⟩;intro e he;rcases mem_cons.1 he with rfl|he
  exact⟨aM.symm,fun _=>aw,fun h=>by cases h⟩;exact aB e he;refine pairwise_cons.2 ⟨fun j bh _ NG ajE=>?_,bk⟩;have wh:s0 o p T H aa∈s0 o p T H aa::dq:=mem_cons_self ..;exact cj j bh NG ajE _ wh;intro e he CF IL k ag;rcases mem_cons.1 he with rfl|he
  exact ajD hf IL k ag;exact cj e he CF IL k (mem_cons_of_mem _ ag);cases gg;cases gg;rename_i aM;obtain⟨aN,aJ,h1,h2,aB,bk,cj⟩:=IK all l _ _ _ aS gg;refine⟨aN,⟨o,p,T,H,undef,H,false⟩::aJ,⟨rfl,rfl,h1⟩,by simp[h2],?_,?_,?_⟩;intro e he;rcases mem_cons.1 he with rfl|he
  exact⟨aM.symm,fun h=>(by cases h),fun _=>⟨rfl,rfl⟩⟩;exact aB e he;refine pairwise_cons.2 ⟨fun j bh h=>(by cases h),bk⟩;intro e he CF IL k ag;rcases mem_cons.1 he with rfl|he
  cases CF;exact cj e he CF IL k ag
theorem NH{H aa:ar}{r:R}{v:Value}(h:E0 H r=some (v,aa)):aa=H/\∃br,r=some (v,br)/\br.next=H.next:=by
 unfold E0 at h
 grind[eq_of_beq_eq_true]
theorem ajF(bE:h3 P bg){o:Oper}{p:mN}{T:List Value}{H aa:ar}{v:Value}(hf:H.dB<=H.next)(U:s4 P bg o p T H=some (v,aa)):gh H aa:=by grind[s4,NH,gh.refl,C4]
theorem y2.kt(bE:h3 P bg){all:List Oper}{e:gr}(he:y2 P bg all e)(hf:e.H.dB<=e.H.next):gh e.H e.aa:=by
 cases aM:e.w with
 | true=>exact ajF bE hf (he.lj aM)
 | false=>rw[(he.jZ aM).2];exact gh.refl _
theorem IM(bE:h3 P bg){all:List Oper}:∀ {aJ:List gr} {T dW:List Value} {H aa:ar},qd T H aJ dW aa->H.dB<=H.next->(∀e∈aJ,y2 P bg all e)->gh H aa
 | [],_,_,_,_,c,_,_=>by obtain⟨_,rfl⟩:=c;exact gh.refl _
 | e::r,T,dW,H,aa,c,hf,he=>by obtain⟨rfl,rfl,c⟩:=c;have m:=(he e (by simp)).kt bE hf;exact m.trans (IM bE c (m.wf hf) fun k ag=>he k (by simp[ag]))
def A4(e:gr)(id:Nat):Prop:=e.aa.cI id≠e.H.cI id
theorem A4.lt{e:gr}{id:Nat}(m:gh e.H e.aa)(aM:og e.H)(h:A4 e id):id<e.aa.next:=by by_cases aN:e.H.cI id=none;exact(m.cV id aN (fun h1=>h (h1.trans aN.symm))).2;exact Nat.lt_of_lt_of_le (aM.lt id aN) m.eu
theorem IN(_hS:h3 P bg){all:List Oper}{e:gr}(he:y2 P bg all e)(Fx:e.p.lx=false->e.p.eF=iu P e.o.op)(hf:e.H.dB<=e.H.next)(_hwf:og e.H){id:Nat}(h:A4 e id):
  e.w=true/\((e.p.eF=4/\(id∈e.ku.k8\/(e.H.next<=id/\id<e.aa.next)))\/(e.p.eF=2/\e.H.next<=id/\id<e.aa.next)\/(e.p.eF=3/\e.ku.oP id=false)):=by
 cases aM:e.w with
 | false=>exact absurd (by rw[(he.jZ aM).2]) h
 | true=>
 refine⟨rfl,?_⟩;have a8:=he.lj aM;unfold s4 at a8;split at a8
 ·exact absurd (by rw[(NH a8).1]) h
 rename_i ajG;have ag:=Fx ajG;have aCD:e.p.eF=3->e.ku.oP id=false:=by
  intro xy;have:e.ku.oP id=dV e.H e.aa id:=by show(s0 e.o e.p e.T e.H e.aa).oP id=_;simp only[s0,xy]
  rw[this];cases aw:dV e.H e.aa id with
  | false=>rfl
  | true=>obtain⟨b,h1,h2⟩:=aiV aw;exact absurd (by simp_all[ar.cI]) h
 have plain:∀(fO br:ar),fO.dB<=fO.next->(jc P e.o.op).f e.T fO=some (e.v,br)->fO.cI=e.H.cI->fO.next=e.H.next->br.cI=e.aa.cI->br.next=e.aa.next->
   ((e.p.eF=4/\(id∈e.ku.k8\/(e.H.next<=id/\id<e.aa.next)))\/(e.p.eF=2/\e.H.next<=id/\id<e.aa.next)\/(e.p.eF=3/\e.ku.oP id=false)):=by
  intro fO br lB bC tb hc b7 eZ;have m:=It lB bC;have nL:br.get id≠fO.get id:=by intro he;refine h ?_;rw[<- b7,<- tb];unfold ar.cI;rw[he,m.cr]
  rcases aiP bC with(⟨k,c⟩|⟨k,c⟩)|c
  ·left;have ajH:e.p.eF=4:=ag.trans k;refine⟨ajH,?_⟩;have:=c id nL;rw[hc,eZ]at this;rcases this with a6|a6
   ·left;show id∈(s0 e.o e.p e.T e.H e.aa).k8
    simp_all[s0]
   omega
  ·right;left;refine⟨ag.trans k,?_⟩;have:=c id nL
   simp_all
  simp_all
 have any:∀(fO br:ar),fO.dB<=fO.next->(iK P e.o.op).f bg e.T fO=some (e.v,br)->fO.cI=e.H.cI->fO.next=e.H.next->br.cI=e.aa.cI->br.next=e.aa.next->
   ((e.p.eF=4/\(id∈e.ku.k8\/(e.H.next<=id/\id<e.aa.next)))\/(e.p.eF=2/\e.H.next<=id/\id<e.aa.next)\/(e.p.eF=3/\e.ku.oP id=false)):=by
  intro fO br lB bC tb hc b7 eZ;unfold iK at bC;split at bC
  case h_2=>cases bC
  case h_1=>
  unfold xe at bC;split at bC
  ·grind[iu]
  ·simp_all[iu]
  ·simp_all[iu]
  ·simp_all[iu]
  ·simp_all[iu]
  grind
 grind
end
end Go.Ab
namespace Go.Ab
open Go
variable[hD]
section
variable{P:Program}{bg:hz}
structure nM (all:List Oper) (k j:gr):Prop where
 cm:k.p.cm<j.p.cm
 NI:UU k j
 k6:hR j.p.k6 k.p.cm=true\/Au all k.o j.o=true
 dv:k.aa.next<=j.H.next
structure tc (P:Program) (bg:hz) (all:List Oper) (fO oY:ar) (e:gr):Prop where
 ok:y2 P bg all e
 eF:e.p.lx=false->e.p.eF=iu P e.o.op
 lx:e.p.lx=true->iu P e.o.op=3
 kt:gh e.H e.aa
 wf:og e.H
 ck:e.H.dB<=e.H.next
 k6:Fv all e.p.cm e.p.k6
 kj:all[e.p.cm]?=some e.o
 ajI:EX e.o e.p.cm=true
 Fy:gh fO e.H
 aq:e.aa.next<=oY.next
theorem UW(bE:h3 P bg){all:List Oper}:∀ {aJ:List gr} {T dW:List Value} {H aa:ar},qd T H aJ dW aa->H.dB<=H.next->og H->(∀e∈aJ,y2 P bg all e)->
  (∀e∈aJ,gh H e.H/\gh e.H e.aa/\og e.H/\e.H.dB<=e.H.next/\e.aa.next<=aa.next)/\aJ.Pairwise (fun k j=>k.aa.next<=j.H.next)
 | [],_,_,_,_,_,_,_,_=>⟨by simp,.nil⟩
 | e::r,T,dW,H,aa,c,hf,aM,he=>by
  obtain⟨rfl,rfl,c⟩:=c;have m:=(he e (by simp)).kt bE hf;have U:∀k∈r,y2 P bg all k:=fun k ag=>he k (by simp[ag])
  have dE:=IM bE c (m.wf hf) U;obtain⟨i1,jR⟩:=UW bE c (m.wf hf) (m.Iy aM) U;refine⟨fun k ag=>?_,pairwise_cons.2 ⟨fun j bh=>(i1 j bh).1.eu,jR⟩⟩;rcases mem_cons.1 ag with rfl|ag
  exact⟨gh.refl _,m,aM,hf,dE.eu⟩;obtain⟨c1,c2,a3,a4,a5⟩:=i1 k ag;exact⟨m.trans c1,c2,a3,a4,a5⟩
theorem ajJ(l:List (Oper×Nat×Nat))(x:Oper×Nat×Nat):(Aw P l x).cm=x.2.1/\(Aw P l x).k6=x.2.2/\(((Aw P l x).lx=false->(Aw P l x).eF=iu P x.1.op)/\((Aw P l x).lx=true->iu P x.1.op=3)):=by grind[Aw,TJ]
theorem IP{all:List Oper}{aJ:List gr}(hm:aJ.map (fun e=>(e.o,e.p))=sd P all){j:Nat}{e:gr}(he:aJ[j]?=some e):
  all[j]?=some e.o/\e.p.cm=j/\Fv all j e.p.k6/\((e.p.lx=false->e.p.eF=iu P e.o.op)/\(e.p.lx=true->iu P e.o.op=3))/\(Av all)[j]?=some (e.o,j,e.p.k6):=by
 have h1:(sd P all)[j]?=some (e.o,e.p):=by grind
 grind[sd,HX,US,ajJ]
theorem ajK(bE:h3 P bg){all:List Oper}{T:List Value}{H:ar}{aS:dY}(U:n5 P bg all T H=some aS)(hf:H.dB<=H.next)(aM:og H):
  aS.cJ=.normal/\∃aJ:List gr,qd T H aJ aS.T aS.H/\aJ.length=all.length/\(∀(j:Nat) (e:gr),aJ[j]?=some e->e.p.cm=j)/\(∀e∈aJ,tc P bg all H aS.H e)/\aJ.Pairwise (nM all)/\gh H aS.H:=by
 unfold n5 at U;split at U
 case h_2=>cases U
 case h_1 IQ=>
 obtain⟨aN,aJ,h1,h2,aB,bk,_⟩:=IK all _ _ _ _ _ U;obtain⟨eP,dR⟩:=UW bE h1 hf aM aB;have NJ:=IQ;unfold Mo at NJ;rw[Bool.and_eq_true,j0,j0,all_eq_true,all_eq_true]at NJ;obtain⟨cC,bw⟩:=NJ;have hlen:aJ.length=all.length:=by
  have:=congrArg List.length h2
  grind[sd,HX,UR]
 refine⟨aN,aJ,h1,hlen,fun j e he=>(IP h2 he).2.1,fun e he=>?_,?_,IM bE h1 hf aB⟩
 ·obtain⟨j,bh⟩:=mem_iff_getElem?.1 he;obtain⟨c1,c2,a3,a4,a5⟩:=IP h2 bh;obtain⟨b1,b2,hB,ml,lS⟩:=eP e he;exact⟨aB e he,a4.1,a4.2,b2,hB,ml,by simp_all,by simp_all,by grind,b1,lS⟩
 ·rw[pairwise_iff_getElem]at bk dR⊢;intro i j aq bh p9;have vZ:=List.getElem?_eq_getElem aq;have AE:=List.getElem?_eq_getElem bh;obtain⟨c1,c2,a3,a4,a5⟩:=IP h2 vZ;obtain⟨b1,b2,hB,ml,lS⟩:=IP h2 AE;refine⟨by omega,bk i j aq bh p9,?_,dR i j aq bh p9⟩;have q:=bw _ (mem_of_getElem? lS);rw[j0,all_eq_true]at q;have q:=q _ (mem_of_getElem? a5);simp only at q;have dy:Nat.blt i j=true:=by simp_all
  simp_all
variable{all:List Oper}{S:Nat->Bool}{fO oY:ar}{j:gr}
theorem UX(lf:y1 all S)(ix:tc P bg all fO oY j)(U:∀e∈j.o.after.toList,Region.binds .any e=true->S e.on=true){k:gr}(ag:S k.p.cm=false):hR j.p.k6 k.p.cm=false:=by
 cases an:hR j.p.k6 k.p.cm with
 | false=>rfl
 | true=>
  obtain⟨o,h1,h2⟩:=ix.k6 S lf _ an;have aB:=ix.kj
  simp_all
theorem NK(lf:y1 all S){k:gr}(ok:tc P bg all fO oY k)(ag:S k.p.cm=true)(bh:S j.p.cm=false):hR k.p.k6 j.p.cm=false:=by
 cases an:hR k.p.k6 j.p.cm with
 | false=>rfl
 | true=>
  obtain⟨o,h1,h2⟩:=ok.k6 S lf _ an;have:=h2 (fun e he ajL=>lf k.p.cm o h1 ag e he ajL)
  simp_all
theorem UY{i:Nat}{l:List Nat}(h:sb i l=false):i∉l:=by
 intro aq;unfold sb at h;rw[j0]at h;have h:(l.all fun j=>!(Nat.beq i j))=true:=by grind
 rw[all_eq_true]at h;have:=h i aq;simp at this
theorem UZ{o:Oper}{l:List Nat}(h:HW o l=false):∀t∈l,o.dst≠some t:=by grind[HW,UY]
theorem ajM{x y:Oper}(h:Mn x y=false):∀t,x.dst=some t->y.dst≠some t:=by
 intro t h1 h2
 simp_all[Mn]
theorem IS{l:List Nat}{fc aq i:Nat}(h:yO l fc aq=true)(fJ:i∈l):i<fc\/aq<=i:=by
 unfold yO at h;rw[j0,all_eq_true]at h
 simp_all
theorem U0{l m:List Nat}{i:Nat}(h:nJ l m=true)(h1:i∈l):i∉m:=by simp_all[nJ,j0,UY]
theorem ajN(bE:h3 P bg)(lf:y1 all S)(ix:tc P bg all fO oY j)(U:∀e∈j.o.after.toList,Region.binds .any e=true->S e.on=true)(wi:j.w=true)
  {k:gr} (ok:tc P bg all fO oY k) (t:nM all k j) (ag:S k.p.cm=false) {id:Nat} (eW:(j.p.eF=3)\/((j.p.eF=1\/j.p.eF=4)/\id∈j.ku.k8)):k.aa.cI id=k.H.cI id:=by
 apply Classical.byContradiction;intro h;obtain⟨Fz,ht⟩:=IN bE ok.ok ok.eF ok.ck ok.wf h;have an:=UX lf ix U ag;have aD:=t.NI Fz wi (by omega);rw[an]at aD;have aD:s3 k.ku j.ku=true:=by simp_all
 have oX:k.ku.eF=k.p.eF:=rfl;have IT:j.ku.eF=j.p.eF:=rfl;have ajO:k.ku.fc=k.H.next:=rfl;have ajP:k.ku.aq=k.aa.next:=rfl;unfold s3 at aD;rw[oX,IT,ajO,ajP]at aD;rcases ht with⟨h1,h2⟩|⟨h1,h2⟩|⟨h1,h2⟩<;>rcases eW with b7|⟨b7|b7,ca⟩<;>rw[h1,b7]at aD<;>simp only[Bool.and_eq_true]at aD<;>first|(cases aD;done)|skip
 ·rcases h2 with h2|h2
  ·grind[U0]
  ·have:=IS aD.2 ca;omega
 ·have:=IS aD ca;omega
 ·have:=IS aD ca;omega
 simp_all[j0]
theorem ajQ(bE:h3 P bg)(lf:y1 all S)(ix:tc P bg all fO oY j)(NL:S j.p.cm=false)(wi:j.w=true)
  {k:gr} (ok:tc P bg all fO oY k) (t:nM all j k) (ag:S k.p.cm=true) {id:Nat} (eW:(j.p.eF=3)\/((j.p.eF=1\/j.p.eF=4)/\id∈j.ku.k8)) (dy:id<j.H.next):k.aa.cI id=k.H.cI id:=by
 apply Classical.byContradiction;intro h;obtain⟨Fz,ht⟩:=IN bE ok.ok ok.eF ok.ck ok.wf h;have an:=NK lf ok ag NL;have aD:=t.NI wi Fz (by omega);rw[an]at aD;have aD:s3 j.ku k.ku=true:=by simp_all
 have oX:k.ku.eF=k.p.eF:=rfl;have IT:j.ku.eF=j.p.eF:=rfl;have eZ:=ix.kt.eu;have fI:=t.dv
 grind[s3,U0,j0]
theorem ajR(bE:h3 P bg)(lf:y1 all S)(ix:tc P bg all fO oY j)(NL:S j.p.cm=false){k:gr}(ok:tc P bg all fO oY k)(t:nM all j k)(ag:S k.p.cm=true)(id:Nat):
  j.aa.cI id=j.H.cI id\/k.aa.cI id=k.H.cI id:=by
 apply Classical.byContradiction;intro aR;obtain⟨U1,ej⟩:=not_or.1 aR;obtain⟨Fz,ht⟩:=IN bE ok.ok ok.eF ok.ck ok.wf ej;obtain⟨A1,bc⟩:=IN bE ix.ok ix.eF ix.ck ix.wf U1;have dy:=A4.lt ix.kt ix.wf U1;have an:=NK lf ok ag NL;have aD:=t.NI A1 Fz (by omega);rw[an]at aD;have aD:s3 j.ku k.ku=true:=by simp_all
 have oX:k.ku.eF=k.p.eF:=rfl;have IT:j.ku.eF=j.p.eF:=rfl;have ajS:j.ku.fc=j.H.next:=rfl;have ajT:j.ku.aq=j.aa.next:=rfl;have fI:=t.dv;unfold s3 at aD;rw[oX,IT,ajS,ajT]at aD;rcases ht with⟨h1,h2⟩|⟨h1,h2⟩|⟨h1,h2⟩<;>rcases bc with⟨b7,ca⟩|⟨b7,ca⟩|⟨b7,ca⟩<;>rw[h1,b7]at aD<;>simp only at aD<;>first|(cases aD;done)|omega|skip
 rcases h2 with h2|h2
 ·have:=IS aD h2;omega
 ·omega
end
end Go.Ab
namespace Go.Ab
open Go
variable[hD]
section
variable{P:Program}{bg:hz}{B:Nat}
theorem i6.U2{σ τ iV:cO}{h h1 h2:Nat->Option Obj}{n N eZ fI:Nat}{w dH e0:World}(a:i6 B σ h n w τ h1 N dH)(b:i6 B τ h1 eZ dH iV h2 fI e0)(aE:n<=eZ)(hh:fI<=N):
  i6 B σ h n w iV h2 N e0:=by
 refine⟨b.fD,a.eu,fun id eW=>?_,fun id x al=>b.mono _ _ (a.mono _ _ al),b.os.trans a.os,b.tape.trans a.tape,b.output.trans a.output,Nat.le_trans a.size b.size,
  fun c aD ey=>?_,fun c bC aD=>a.s5 c (b.s5 c bC (Nat.lt_of_lt_of_le aD a.size)) aD⟩
 have:=b.eu;rw[b.ext id (by omega),a.ext id (by omega)];rw[b.ld c (Nat.lt_of_lt_of_le aD a.size) (fun bC=>ey (a.s5 c bC aD)),a.ld c aD ey]
theorem i6.ajU{σ τ:cO}{h h1:Nat->Option Obj}{n eZ N:Nat}{w dH:World}(a:i6 B σ h n w τ h1 eZ dH)(hh:eZ<=N):i6 B σ h n w τ h1 N dH:=
 ⟨a.fD,Nat.le_trans a.eu hh,fun id eW=>a.ext id (by omega),a.mono,a.os,a.tape,a.output,a.size,a.ld,a.s5⟩
theorem U3{S:Nat->Bool}:∀ {aJ:List gr} {T dW:List Value} {H aa:ar},qd T H aJ dW aa->(∀e∈aJ,S e.p.cm=true)->iM S T aJ=dW
 | [],_,_,_,_,c,_=>c.1
 | e::r,T,dW,H,aa,c,aw=>by obtain⟨rfl,rfl,c⟩:=c;show iM S (if S e.p.cm then _ else _) r=dW;rw[if_pos (aw e (by simp))];exact U3 c fun k ag=>aw k (by simp[ag])
theorem NM{S:Nat->Bool}(id:Nat):∀ {aJ:List gr} {T dW:List Value} {H aa:ar} {h:Nat->Option Obj},qd T H aJ dW aa->(∀e∈aJ,S e.p.cm=true)->
  ((∃e∈aJ,A4 e id)/\iy S h aJ id=aa.cI id)\/(iy S h aJ id=h id/\aa.cI id=H.cI id/\∀e∈aJ,¬A4 e id)
 | [],_,_,_,_,_,c,_=>by obtain⟨_,rfl⟩:=c;exact .inr ⟨rfl,rfl,by simp⟩
 | e::r,T,dW,H,aa,h,c,aw=>by
  obtain⟨rfl,rfl,c⟩:=c;have hh:iy S h (e::r) id=iy S (e1 h e.H e.aa) r id:=by simp_all[iy]
  rw[hh];rcases NM id (h:=e1 h e.H e.aa) c fun k ag=>aw k (by simp[ag])with⟨⟨k,ag,ht⟩,h1⟩|⟨h1,h2,aB⟩
  grind
  by_cases ht:A4 e id;refine .inl ⟨⟨e,by simp,ht⟩,?_⟩;rw[h1,h2];unfold e1;rw[if_neg ht];refine .inr ⟨?_,?_,?_⟩;rw[h1];unfold e1;rw[if_pos (Classical.not_not.1 ht)];rw[h2];exact Classical.not_not.1 ht
  simp_all
theorem ajV{all:List Oper}{S:Nat->Bool}{vj σ:cO}{aN:Nat->Option Obj}{fO oY:ar}{l4 w:World}{aJ:List gr}{T dW:List Value}(ig:gS P B vj aN fO l4)(cH:gq vj fO.next oY.next)
  (c:qd T fO aJ dW oY) (bC:∀e∈aJ,tc P bg all fO oY e) (m:gh fO oY) (aw:∀e∈aJ,S e.p.cm=true) (g:i6 B vj aN fO.next l4 σ (iy S aN aJ) oY.next w):fx B vj aN fO l4 σ (iy S aN aJ) oY w:=by
 refine⟨g,fun id b an=>?_,fun id b an=>?_,m⟩;rcases NM id (h:=aN) c aw with⟨_,h1⟩|⟨h1,h2,_⟩
 simp_all
 rw[h1];exact ig.sub id b (h2▸an);rcases NM id (h:=aN) c aw with⟨⟨e,he,ht⟩,h1⟩|⟨h1,h2,_⟩
 rw[h1];by_cases bt:oY.cI id=fO.cI id;unfold e1 at an;rw[if_pos bt]at an;cases aB:fO.cI id with
 | some j9=>rw[bt,aB];have:=ig.sub id j9 aB;simp_all
 | none=>
  exfalso;have o:=bC e he;have xp:fO.next<=id/\id<oY.next:=by by_cases bk:e.H.cI id=none;have cj:=o.kt.cV id bk (fun cj=>ht (cj.trans bk.symm));have:=o.Fy.eu;have:=o.aq;omega;have cj:=o.Fy.cV id aB bk;have:=o.kt.eu;have:=o.aq;omega
  have dU:=cH id xp.1 xp.2;obtain⟨cc,MR,gi,b7⟩:=(ig.fD.fC id b an).we
  simp_all
 simp_all[e1]
 simp_all[e1]
theorem ajW{T dW:List Value}{x:Operand}(h:∀t,x=.tmp t->b4 T t=b4 dW t):(dT x).g T=(dT x).g dW:=by
 cases x with
 | tmp t=>exact h t rfl
 | _=>rfl
theorem ajX{all:List Oper}{o:Oper}{T dW:List Value}(h:∀t∈looks all o,b4 T t=b4 dW t):(ia all o.guard).f T=(ia all o.guard).f dW:=by
 unfold ia
 grind[looks,iv,u1]
theorem ajY{bf:Array Oper}{listed:Array Bool}(fj:listed.size=bf.size)(he:∀(i:Nat) (o:Oper),bf[i]?=some o->EX o i=true)(U:Region.ready .any bf listed=[]):
  ∀i,i<bf.size->listed.getD i false=true:=by
 intro i;induction i using Nat.strongRecOn with
 | ind i a7=>
  intro aq;apply Classical.byContradiction;intro aR;have bC:bf[i]?=some bf[i]:=Array.getElem?_eq_getElem aq;have wh:i∈Region.ready .any bf listed:=by
   rw[mem_ready];refine⟨?_,bf[i],bC,fun e aCE an=>?_⟩
   simp_all
   have:=he i _ bC;unfold EX at this;rw[j0,all_eq_true]at this;have:=this e (by simp_all);rw[an]at this;simp only at this;have dy:e.on<i:=by simp_all
   grind
  simp_all
theorem ajZ(H:ar)(id:Nat):(lx H).cI id=none:=by rfl
theorem aj0(dA:c8 P)(bE:h3 P bg)(bf:Array Oper)(r:Option Nat){vj:cO}{aN:Nat->Option Obj}{lC:List Value}{fO:ar}{l4:World}{a0:Act}{aS:dY}{Q:Exit->Act->World->Prop}(ig:gS P B vj aN fO l4)
  (cH:gq vj fO.next aS.H.next) {aJ:List gr} (aD:qd lC fO aJ aS.T aS.H) (hlen:aJ.length=bf.size) (wj:∀(j:Nat) (e:gr),aJ[j]?=some e->e.p.cm=j) (qN:∀e∈aJ,tc P bg bf.toList fO aS.H e) (NN:aJ.Pairwise (nM bf.toList)) (C7:gh fO aS.H)
  (cf:∀ τ a6 cq aV,bH τ aS.T cq.tmps.toList->cq.defers=a0.defers->fx B vj aN fO l4 τ a6 aS.H aV->Q .normal cq aV):
  ∀(l5:Nat) (listed:Array Bool) (a:Act) (w:World) (σ:cO),listed.size=bf.size->listed.toList.count false<=l5->y1 bf.toList (fun i=>listed.getD i false)->bH σ (iM (fun i=>listed.getD i false) lC aJ) a.tmps.toList->a.defers=a0.defers->
   i6 B vj aN fO.next l4 σ (iy (fun i=>listed.getD i false) aN aJ) aS.H.next w->(∀e∈aJ,listed.getD e.p.cm false=false->gq σ e.H.next e.aa.next)->wpAnyIn (ei r) 0 P .any bf Q l5 listed a w:=by
 have aj1:∀(i:Nat) (o:Oper),bf[i]?=some o->EX o i=true:=by
  intro i o bC;have aq:i<aJ.length:=by grind
  have vZ:=List.getElem?_eq_getElem aq;have on:=qN _ (mem_of_getElem? vZ);have h1:=on.kj;have h2:=on.ajI
  grind
 have ed:∀(listed:Array Bool) (a:Act) (w:World) (σ:cO),listed.size=bf.size->bH σ (iM (fun i=>listed.getD i false) lC aJ) a.tmps.toList->a.defers=a0.defers->
   i6 B vj aN fO.next l4 σ (iy (fun i=>listed.getD i false) aN aJ) aS.H.next w->Region.ready .any bf listed=[]->Q .normal a w:=by
  intro listed a w σ fj bd aO hg U;have hall:=ajY fj aj1 U;have aw:∀e∈aJ,(fun i=>listed.getD i false) e.p.cm=true:=by grind[mem_iff_getElem?]
  rw[U3 aD aw]at bd;exact cf σ _ a w bd aO (ajV ig cH aD qN C7 aw hg)
 intro l5;induction l5 with
 | zero=>
  intro listed a w σ fj y5 lf bd aO hg A5;have U:Region.ready .any bf listed=[]:=by
   cases U:Region.ready .any bf listed with
   | nil=>rfl
   | cons i _=>
    exfalso;have aq:i∈Region.ready .any bf listed:=by grind
    obtain⟨h1,_⟩:=mem_ready.1 aq;have:false∈listed.toList:=by
     by_cases dy:i<listed.size;simp only[Array.getD_eq_getD_getElem?,Array.getElem?_eq_getElem dy,Option.getD_some]at h1
     grind
     simp_all
    grind
  exact⟨U,ed listed a w σ fj bd aO hg U⟩
 | succ l5 a7=>
  intro listed a w σ fj y5 lf bd aO hg A5;refine⟨ed listed a w σ fj bd aO hg,fun i aq=>?_⟩;obtain⟨aCF,o,bC,aj2⟩:=mem_ready.1 aq;have aCG:i<bf.size:=(Array.getElem?_eq_some_iff.1 bC).1;have sl:i<listed.size:=by omega
  have NO:i<aJ.length:=by omega
  have U4:listed.getD i false=false:=by grind
  obtain⟨j,bh⟩:∃j,aJ[i]?=some j:=⟨_,List.getElem?_eq_getElem NO⟩;have NP:=mem_of_getElem? bh;have Io:=wj i j bh;have ix:=qN j NP;have aj3:j.o=o:=by
   have h1:=ix.kj
   grind
  subst aj3
  let S:Nat->Bool:=fun i=>listed.getD i false
  let A6:=listed.setIfInBounds i true
  let hS:Nat->Bool:=fun i=>A6.getD i false
  have C8:S j.p.cm=false:=by grind
  have U5:hS j.p.cm=true:=by show(listed.setIfInBounds i true).getD j.p.cm false=true;rw[Io];simp[Array.getD_eq_getD_getElem?,sl]
  have NQ:∀m,m≠i->hS m=S m:=fun m hm=>getD_set_ne false (Ne.symm hm)
  obtain⟨pre,post,qc⟩:=append_of_mem NP;have xB:=NN;rw[qc]at xB;obtain⟨_,NR,IU⟩:=pairwise_append.1 xB;have FA:∀k∈post,nM bf.toList j k:=(pairwise_cons.1 NR).1;have IV:∀k∈pre,nM bf.toList k j:=fun k ag=>IU k ag j (by simp)
  have aj4:∀k∈pre,tc P bg bf.toList fO aS.H k:=fun k ag=>qN k (by grind)
  have U6:∀k∈post,tc P bg bf.toList fO aS.H k:=fun k ag=>qN k (by grind)
  have U7:∀e∈j.o.after.toList,Region.binds .any e=true->S e.on=true:=fun e he an=>aj2 e (by grind) an
  have aj5:∀k∈pre,S k.p.cm=false->Au bf.toList k.o j.o=true:=fun k ag sm=>by
   have:=(IV k ag).k6;rw[UX lf ix U7 sm]at this
   grind
  have U8:∀k∈post,S k.p.cm=true->Au bf.toList j.o k.o=true:=fun k ag sm=>by
   have:=(FA k ag).k6
   grind[NK]
  have U9:∀t∈looks bf.toList j.o,b4 (iM S lC aJ) t=b4 j.T t:=by
   intro t ht;rw[qc];have gx:=aD;rw[qc]at gx;refine ajy gx C8 (fun k ag sm=>?_) (fun k ag sm=>?_);have:=aj5 k ag sm;unfold Au at this;simp only[Bool.and_eq_true,Bool.not_eq_true']at this
   grind[UZ]
   have:=U8 k ag sm;unfold Au at this;simp only[Bool.and_eq_true,Bool.not_eq_true']at this
   grind[UZ]
  have qQ:∀x∈j.o.op.operands.toList,(dT x).g (iM S lC aJ)=(dT x).g j.T:=fun x al=>ajW fun t e=>U9 t (by subst e;unfold looks;rw[iv];exact mem_append_left _ (mem_filterMap.2 ⟨.tmp t,al,rfl⟩))
  have NG:(ia bf.toList j.o.guard).f (iM S lC aJ)=j.w:=by rw[ajX U9,ix.ok.w]
  have aM:=Uv bd (bf:=bf) j.o;have aM:Region.wanted j.o (yielded bf a.tmps)=j.w:=aM.trans NG;have NS:y1 bf.toList hS:=by
   intro m aj6 aj7 hm e he an;by_cases hmi:m=i
   grind
   rw[NQ _ hmi]at hm;have:=lf m aj6 aj7 hm e he an
   grind
  have xk:∀k∈pre++post,hS k.p.cm=S k.p.cm:=by
   intro k ag;refine NQ _ ?_;rcases mem_append.1 ag with ag|ag
   have:=(IV k ag).cm;omega;have:=(FA k ag).cm;omega
  have aCH:iM hS lC aJ=hZ (iM S lC aJ) j.o.dst j.v:=by
   rw[qc];refine ajz C8 U5 xk fun k ag sm x al=>?_
   have:=U8 k ag sm;unfold Au at this;simp only[Bool.and_eq_true,Bool.not_eq_true']at this
   grind[ajM]
  have aj8:iy hS aN aJ=e1 (iy S aN aJ) j.H j.aa:=by rw[qc];exact ajx C8 U5 xk fun k ag sm id=>ajR bE lf ix C8 (U6 k ag) (FA k ag) sm id
  have NT:A6.toList.count false<=l5:=by
   have h1:A6.toList=listed.toList.set i true:=by grind
   have h2:listed.toList[i]'(by omega)=false:=by
    have:listed[i]=false:=by simp only[Array.getD_eq_getD_getElem?,Array.getElem?_eq_getElem sl,Option.getD_some]at U4;exact U4
    grind
   grind
  have NU:∀(τ:cO),(∀id,id<j.H.next\/j.aa.next<=id->τ id=σ id)->∀e∈aJ,hS e.p.cm=false->gq τ e.H.next e.aa.next:=by
   intro τ lz e he Nw x sn s8;have da:e.p.cm≠i:=fun h=>by grind
   rw[NQ _ da]at Nw;rw[qc]at he;have aj9:x<j.H.next\/j.aa.next<=x:=by
    rcases mem_append.1 he with h|h
    have:=(IV e h).dv;omega;rcases mem_cons.1 h with rfl|h
    omega;have:=(FA e h).dv;omega
   rw[lz x aj9];exact A5 e (by grind) Nw x sn s8
  unfold wpOpIn;rw[bC];simp only;cases wi:j.w with
  | false=>
   rw[wi]at aM;rw[if_neg (by grind)];refine⟨fun _ _=>trivial,?_⟩;obtain⟨hv,vk⟩:=ix.ok.jZ wi;obtain⟨cC,bw⟩:=wg bd j.o.dst (ch.undef (σ:=σ));refine a7 A6 _ w σ (by grind) NT NS ?_ (bw.trans aO) ?_ (NU σ fun _ _=>rfl)
   grind
   grind[C1]
  | true=>
   rw[wi]at aM;rw[if_pos aM];have jq:∀id,((j.p.eF=3)\/((j.p.eF=1\/j.p.eF=4)/\id∈j.ku.k8))->∀b,j.H.cI id=some b->iy S aN aJ id=some b:=by intro id eW b an;have dy:id<j.H.next:=ix.wf.lt id (by grind);rw[qc];have gx:=aD;rw[qc]at gx;refine ajw gx C8 (fun k ag sm=>?_) (fun k ag sm=>?_) (ig.sub id) b an;exact ajN bE lf ix U7 wi (aj4 k ag) (IV k ag) sm eW;exact ajQ bE lf ix C8 wi (U6 k ag) (FA k ag) sm eW dy
   have dP:B<=w.heap.size:=Nat.le_trans ig.dP hg.size;have er:yZ P σ:=fun g aka=>by obtain⟨z,dQ⟩:=ig.Np g aka;exact⟨z,hg.mono _ _ dQ⟩
   have aCI:gq σ j.H.next j.aa.next:=A5 j NP (by omega);have a8:=ix.ok.lj wi;unfold s4 at a8;cases hbj:j.p.lx with
   | false=>
    rw[hbj]at a8;have IW:∀(G A7:ar),(iK P j.o.op).f bg j.T G=some (j.v,A7)->G.cI=j.H.cI->G.next=j.H.next->A7.cI=j.aa.cI->A7.next=j.aa.next->G.dB<=G.next->og G->
      Oper.wpIn (ei r) 0 P j.o a w (wpAnyIn (ei r) 0 P .any bf Q l5 A6) Q:=by
     intro G A7 hb b7 eZ ca fI lB A8;have FB:(iK P j.o.op).f bg (iM S lC aJ) G=some (j.v,A7):=by rw[UT qQ];exact hb
     refine Nx dA bE j.o (h:=iy S aN aJ) (H:=G) (aa:=A7) (T:=iM S lC aJ) hg.fD dP er ?_ A8 lB ?_ (by grind) bd FB ?_;intro ag x al id eW b an;have Va:j.p.eF=1\/j.p.eF=4:=by rw[ix.eF hbj];exact ag
     refine jq id (.inr ⟨Va,?_⟩) b (by rw[<- b7];exact an);rw[qQ x al]at eW;show id∈(s0 j.o j.p j.T j.H j.aa).k8;have wh:id∈b9 (j8 j.o.op.operands.toList j.T):=Fl (by rw[CV];grind) id eW;rcases Va with h|h<;>simp only[s0,h]<;>exact wh
     intro ag;refine⟨hg.fD,fun id b an=>?_,dP,er,A8,lB,hg.base ig.fD ig.dP ig.base,ig.fc⟩;exact jq id (.inl (by rw[ix.eF hbj];exact ag)) b (by rw[<- b7];exact an);intro aH τ aV hv g;rw[eZ,fI]at g;have bc:e1 (iy S aN aJ) G A7=e1 (iy S aN aJ) j.H j.aa:=by funext id;unfold e1;rw[b7,ca]
     rw[bc]at g;have A9:=hg.U2 g ix.Fy.eu ix.aq;obtain⟨cC,bw⟩:=wg (bd.mono g.mono) j.o.dst hv;refine a7 A6 _ aV τ (by grind) NT NS ?_ (bw.trans aO) ?_ (NU τ g.ext)
     grind
     grind
    exact IW _ _ a8 rfl rfl rfl rfl ix.ck ix.wf
   | true=>
    rw[hbj]at a8;obtain⟨vk,br,hb,CK⟩:=NH a8;have xj:∀id,(lx j.H).cI id=none:=fun id=>ajZ j.H id
    have C7:=C4 bE (show(lx j.H).dB<=(lx j.H).next from ix.ck) hb;have Fp:∀id,br.cI id=none:=fun id=>Classical.byContradiction fun h=>by
     have:=C7.cV id (xj id) h
     grind[lx]
    have FB:(iK P j.o.op).f bg (iM S lC aJ) (lx j.H)=some (j.v,br):=by rw[UT qQ];exact hb
    have aB:=ix.lx hbj;have A8:og (lx j.H):=⟨fun i h=>absurd (xj i) h,fun i h=>absurd rfl h⟩;refine Nx dA bE j.o (h:=iy S aN aJ) (H:=lx j.H) (aa:=br) (T:=iM S lC aJ) hg.fD dP er ?_ A8 ix.ck ?_ ?_ bd FB ?_;omega;intro _;exact⟨hg.fD,fun id b an=>(by grind),dP,er,A8,ix.ck,hg.base ig.fD ig.dP ig.base,ig.fc⟩;rw[CK];intro x sn s8;exact absurd (Nat.lt_of_lt_of_le s8 sn) (Nat.lt_irrefl _);intro aH τ aV hv g;have bc:e1 (iy S aN aJ) (lx j.H) br=iy S aN aJ:=by
     funext id
     unfold e1
     grind
    rw[bc,CK]at g;have A9:=hg.U2 g ix.Fy.eu (Nat.le_trans (Nat.le_of_eq (by rw[vk])) ix.aq);obtain⟨cC,bw⟩:=wg (bd.mono g.mono) j.o.dst hv;refine a7 A6 _ aV τ (by grind) NT NS ?_ (bw.trans aO) ?_ (NU τ fun id eW=>g.ext id (by rw[vk]at eW;exact eW))
    grind
    show i6 B vj aN fO.next l4 τ (iy hS aN aJ) aS.H.next aV;rw[aj8,vk,C1];exact A9
theorem Vb(dA:c8 P)(bE:h3 P bg)(bf:Array Oper)(IX:Nat)(r:Option Nat){σ:cO}{h:Nat->Option Obj}{T:List Value}{H:ar}{w:World}{a:Act}{aS:dY}(k:gS P B σ h H w)(cH:gq σ H.next aS.H.next)(bd:bH σ T a.tmps.toList)
  (U:n5 P bg bf.toList T H=some aS) {Q:Exit->Act->World->Prop} (cf:aS.cJ=.normal->∀ τ a6 cq aV,bH τ aS.T cq.tmps.toList->cq.defers=a.defers->fx B σ h H w τ a6 aS.H aV->Q .normal cq aV):(Code.region IX bf true).wpIn (ei r) 0 P Q a w:=by
 obtain⟨al,aJ,aD,hlen,wj,qN,NN,C7⟩:=ajK bE U k.ck k.wf;refine wpIn_region_any dA.mixed ?_;have akb:∀i,(Array.replicate bf.size false).getD i false=false:=fun i=>by rw[Array.getD_eq_getD_getElem?,Array.getElem?_replicate];grind
 have aCJ:∀(l:List gr) (T:List Value),iM (fun i=>(Array.replicate bf.size false).getD i false) T l=T:=by
  intro l;induction l with
  | nil=>intro T;rfl
  | cons e l a7=>grind[iM]
 have aCK:∀(l:List gr) (g:Nat->Option Obj),iy (fun i=>(Array.replicate bf.size false).getD i false) g l=g:=by
  intro l;induction l with
  | nil=>intro T;rfl
  | cons e l a7=>grind[iy]
 have tb:i6 B σ h H.next w σ h aS.H.next {w with drawn:=w.drawn+1}:=(i6.ai0 k.fD _).ajU C7.eu;refine aj0 dA bE bf r (a0:=a) k cH aD (by omega) wj qN NN C7 ?_ bf.size _ a _ σ (by simp) ?_ ?_ ?_ rfl ?_ ?_
 grind
 simp_all
 intro i o _ aq
 simp_all
 simp_all
 simp_all
 intro e he _ i h1 h2;have o:=qN e he;exact cH i (Nat.le_trans o.Fy.eu h1) (Nat.lt_of_lt_of_le h2 o.aq)
theorem akc(dA:c8 P)(bE:h3 P bg)(bf:Array Oper)(IX:Nat)(r:Option Nat){σ:cO}{h:Nat->Option Obj}{T:List Value}{H:ar}{w:World}{a:Act}{aS:dY}(k:gS P B σ h H w)(cH:gq σ H.next aS.H.next)(bd:bH σ T a.tmps.toList)
  (U:n5 P bg bf.toList T H=some aS):(Code.region IX bf true).wpIn (ei r) 0 P (s9 B σ h H w a.defers aS) a w:=
 Vb dA bE bf IX r k cH bd U fun al τ a6 cq aV bO q2 dz=>⟨by rw[al];rfl,[],τ,a6,q2,⟨by simp,.nil⟩,bO,dz⟩
end
end Go.Ab
namespace Go.Ab
open Go
variable[hD]
section
variable{P:Program}{B:Nat}{σ:cO}{h:Nat->Option Obj}{H aa:ar}{w:World}
theorem gS.IY(k:gS P B σ h H w){l:Nat}{r:ha}(aE:eD H.dI l=some r)(hm:mK r=false):h l=some (.loop r)/\∃c o s L,σ l=some (c,o,s)/\B<=c/\w.heap[c]?=some (.loop L)/\Iu σ r L:=by
 have hg:H.get l=none:=k.wf.si l (by grind);have hO:H.cI l=some (.loop r):=by simp_all[ar.cI]
 have hh:=k.sub l _ hO;obtain⟨c,o,s,dt,h1,h2,aB⟩:=k.fD.fC l _ hh;obtain⟨b5,dd,cn,bk,cj⟩:=k.fD.own l _ hh rfl
 simp_all[ub]
theorem rD.put{id c:Nat}{b:Obj}{L:Go.Obj}{o s:Nat}(eW:rD σ w id b)(dU:σ id=some (c,o,s)){l:Nat}(da:c≠l):rD σ (w.putObj l L) id b:=by
 have e:(w.putObj l L).heap[c]?=w.heap[c]?:=World.putObj_heap_other da;cases b with
 | cells b=>obtain⟨b5,dd,cn,db,cW,ec,h1,h2,aB,bk,cj,dh⟩:=eW;rw[dU]at h1;cases h1;exact⟨c,o,s,db,cW,ec,dU,by simp_all,aB,bk,cj,dh⟩
 | loop r=>obtain⟨b5,dd,cn,cA,h1,h2,aB⟩:=eW;rw[dU]at h1;cases h1;exact⟨c,o,s,cA,dU,by simp_all,aB⟩
 | nm=>obtain⟨b5,dd,cn,h1,h2⟩:=eW;rw[dU]at h1;cases h1;exact⟨c,o,s,dU,by simp_all⟩
theorem Vc(k:gS P B σ h H w){l:Nat}{r:ha}(aE:eD H.dI l=some r)(hm:mK r=false)(lB:H.dB<=l){C9:List (Nat×ha)}(cL:Option ha)(h1:eD C9 l=cL)(h2:∀j,j≠l->eD C9 j=eD H.dI j)
  {c o s:Nat} (dU:σ l=some (c,o,s)) (dt:Go.Obj) (hO:∀dx,cL=some dx->mK dx=false/\∃L,dt=.loop L/\Iu σ dx L):
  fx B σ h H w σ (fun id=>if id=l then cL.map .loop else h id) ⟨H.t,H.next,H.dB,C9⟩ (w.putObj c dt):=by
 have hg:H.get l=none:=k.wf.si l (by grind);obtain⟨hh,b5,dd,cn,L,bO,q2,dz,eM⟩:=k.IY aE hm;rw[dU]at bO;cases bO;have aD:c<w.heap.size:=(Array.getElem?_eq_some_iff.1 dz).1;have xx:∀id,ar.cI ⟨H.t,H.next,H.dB,C9⟩ id=if id=l then cL.map .loop else H.cI id:=by
  intro id;show(match H.get id with|some b=>some (Obj.cells b)|none=>(eD C9 id).map .loop)=_;by_cases aq:id=l
  simp_all
  rw[if_neg aq,h2 id aq];rfl
 have dy:l<H.next:=k.wf.lt l (by simp_all[ar.cI]);have Fq:∀id b b5 dd cn,id≠l->h id=some b->σ id=some (b5,dd,cn)->b5≠c:=fun id b b5 dd cn da an gx e=>by subst e;exact k.fD.la l id _ b (Ne.symm da) hh an rfl _ _ _ _ _ _ dU gx rfl
 have fD:lh σ B (fun id=>if id=l then cL.map .loop else h id) (w.putObj c dt):=by
  refine⟨fun id b an=>?_,fun id b an aM=>?_,fun i j ib gf da aq bh aM=>?_⟩;by_cases aq:id=l;subst aq;simp only[if_true]at an;cases cL with
  | none=>cases an
  | some dx=>
   cases an;obtain⟨MF,cA,rfl,aCL⟩:=hO dx rfl;refine⟨c,o,s,_,dU,World.putObj_heap_same aD,?_⟩
   simp_all[ub]
  simp only[aq,if_false]at an;have y0:=k.fD.fC id b an;obtain⟨eP,bZ,di,bb⟩:=y0.we;exact y0.put bb (Fq id b _ _ _ aq an bb);by_cases aq:id=l
  simp_all
  simp only[aq,if_false]at an;exact k.fD.own id b an aM;intro ajd bD aje ajf ix Iv Ns Fo;by_cases sl:i=l
  grind
  simp only[sl,if_false]at aq;by_cases qO:j=l
  grind
  simp only[qO,if_false]at bh;exact k.fD.la i j ib gf da aq bh aM _ _ _ _ _ _ Ns Fo
 have Nt:∀x,AY σ (fun id=>if id=l then cL.map .loop else h id) x->AY σ h x:=by rintro x ⟨id,b,bZ,di,an,aM,al⟩;by_cases aq:id=l;subst aq;exact⟨id,_,bZ,di,hh,rfl,al⟩;simp only[aq,if_false]at an;exact⟨id,b,bZ,di,an,aM,al⟩
 refine⟨⟨fD,Nat.le_refl _,fun _ _=>rfl,fun _ _ h=>h,rfl,rfl,rfl,Nat.le_of_eq World.putObj_size.symm,fun x al ey=>?_,fun x al _=>Nt x al⟩,fun id b an=>?_,fun id b an=>?_,⟨Nat.le_refl _,rfl,fun i aq=>?_,fun i aq fJ=>?_,fun wf=>⟨fun i aq=>?_,fun i aq=>?_⟩⟩⟩;refine World.putObj_heap_other ?_;rintro rfl;exact ey ⟨l,_,o,s,hh,rfl,dU⟩;rw[xx]at an;by_cases aq:id=l
 simp_all
 simp only[aq,if_false]at an⊢;exact k.sub id b an;unfold e1 at an;rw[xx]at an;by_cases aq:id=l;subst aq;simp only[if_true]at an⊢;have ic:H.cI id=some (.loop r):=by simp_all[ar.cI]
 grind
 simp_all
 grind
 simp_all[ar.cI]
 rw[xx]at aq;by_cases he:i=l
 simp_all
 rw[if_neg he]at aq;exact wf.lt i aq;show H.get i=none;by_cases he:i=l
 simp_all
 refine wf.si i ?_
 simp_all
theorem IZ{l:Nat}{st:uP}(U:uZ l st H=some aa):H.dB<=l/\∃r,eD H.dI l=some r/\(mK r=false/\mK ⟨r.T,r.bJ,r.cS,r.body,st⟩=false)/\aa=⟨H.t,H.next,H.dB,lv H.dI l ⟨r.T,r.bJ,r.cS,r.body,st⟩⟩:=by
 unfold uZ at U;split at U;rename_i an;split at U;rename_i r aE;split at U;cases U
 simp_all
 grind
 grind
theorem Vd{l:Nat}{r v:ha}(aE:eD H.dI l=some r):eD (lv H.dI l v) l=some v:=IB _ _ _ (by grind)
theorem Ve(k:gS P B σ h H w){l:Nat}{st:uP}(U:uZ l st H=some aa){c o s:Nat}(dU:σ l=some (c,o,s)):
  ∃r L,eD H.dI l=some r/\w.heap[c]?=some (.loop L)/\Iu σ r L/\∀y7 jf,No st y7 jf->∃a6,fx B σ h H w σ a6 aa (w.putObj c (.loop {L with state:=y7,pending:=jf})):=by
 obtain⟨lB,r,aE,hm,rfl⟩:=IZ U;obtain⟨hh,b5,dd,cn,L,bO,q2,dz,eM⟩:=k.IY aE hm.1;rw[dU]at bO;cases bO;refine⟨r,L,aE,dz,eM,fun y7 jf hb=>⟨_,Vc k aE hm.1 lB (some ⟨r.T,r.bJ,r.cS,r.body,st⟩) (Vd aE) (fun j bh=>xu _ _ _ _ bh) dU _ ?_⟩⟩;rintro dx a6;cases a6;exact⟨hm.2,_,rfl,eM.T,eM.bJ,eM.cS,eM.body,hb⟩
theorem I0{l:Nat}{st:uP}(U:uZ l st H=some aa):gh H aa:=by
 obtain⟨lB,r,aE,hm,rfl⟩:=IZ U;have xx:∀id,ar.cI ⟨H.t,H.next,H.dB,lv H.dI l ⟨r.T,r.bJ,r.cS,r.body,st⟩⟩ id=none↔H.cI id=none:=by
  intro id;rw[sj,sj];show H.get id=none/\eD (lv H.dI l _) id=none↔_
  grind[Vd,xu]
 refine⟨Nat.le_refl _,rfl,fun i aq=>?_,fun i aq fJ=>absurd ((xx i).2 aq) fJ,fun wf=>⟨fun i aq=>wf.lt i (fun e=>aq ((xx i).2 e)),fun i aq=>?_⟩⟩;show(match H.get i with|some b=>some (Obj.cells b)|none=>(eD (lv H.dI l _) i).map .loop)=_;rw[xu _ _ _ _ (by omega)];rfl;show H.get i=none;refine wf.si i ?_
 grind[xu]
end
end Go.Ab
namespace Go.Ab
open Go
variable[hD]
section
variable{P:Program}{bg:hz}{B:Nat}
theorem y8:∀(n:Nat) (v:Value),fR n [v]=List.replicate n v
 | 0,_=>rfl
 | n+1,v=>by show hP [v] (fR n [v])=_;rw[iv,y8 n v,replicate_succ];rfl
theorem Vf{F:Fence}{c:Code}{Q Vg:Exit->Act->World->Prop}(cf:∀e a w,Q e a w->Vg e a w):∀(n:Nat) (a:Act) (w:World),Code.roundsIn F 0 P c Q n a w->Code.roundsIn F 0 P c Vg n a w
 | 0,_,_,h=>h
 | n+1,a,w,h=>wpIn_mono h fun e cq aV he=>by cases e<;>first|exact Vf cf n cq aV he|exact cf _ _ _ he
theorem I1{σ:cO}{T:List Value}{a:Act}(bd:bH σ T a.tmps.toList){c:Operand}{t:Bool}(h:(dT c).g T=.bool t):a.eval c=.bool t:=by
 cases c with
 | tmp i=>
  have h1:b4 T i=.bool t:=h;rw[oR]at h1;have h2:=bd.getD i;rw[h1]at h2;show a.tmps.getD i undef=.bool t;have aB:a.tmps.toList.getD i undef=a.tmps.getD i undef:=by simp_all
  rw[<- aB];generalize a.tmps.toList.getD i undef=x at h2;cases h2;rfl
 | const v=>exact h
 | global g=>cases h
 | func f=>cases h
theorem so{o:Option dY}{k:List Value->ar->Option dY}{aS:dY}(h:mO o k=some aS):∃bZ,o=some bZ/\((bZ.cJ=.normal/\k bZ.T bZ.H=some aS)\/(bZ.cJ≠.normal/\aS=bZ)):=by
 unfold mO at h
 grind
theorem NV{id:Nat}{o:Option dY}{aS:dY}(h:Ay id o=some aS):∃bZ,o=some bZ/\aS.T=bZ.T/\aS.H=bZ.H/\((bZ.cJ=.exit id/\aS.cJ=.normal)\/(bZ.cJ≠.exit id/\aS.cJ=bZ.cJ)):=by
 unfold Ay at h;cases o with
 | none=>cases h
 | some bZ=>
  refine⟨bZ,rfl,?_⟩;obtain⟨e,T,H⟩:=bZ;cases e with
  | normal=>grind
  | ret=>grind
  | exit tO=>
   simp only at h;split at h
   grind[eq_of_beq_eq_true]
   rename_i he;cases h;simp_all
theorem Vh{o:Option dY}{k:List Value->ar->Option dY}{aS:dY}(h:E4 o k=some aS):∃bZ,o=some bZ/\bZ.cJ=.normal/\k bZ.T bZ.H=some aS:=by
 unfold E4 at h
 grind
theorem Vi{g:Value}{bJ:List Tmp}{cS body:Code}{T:List Value}{H:ar}{aS:dY}(U:uY bg g bJ cS body T H=some aS):
  ∃f args cJ v br x dO,tL g [uX (Nat.succ H.next)]=some (.fn f args)/\bg (.call f args (laid T bJ cS body H))=some ⟨cJ,[v],br⟩/\br.dI=(Nat.succ H.next,x)::dO/\br.dB<=Nat.succ H.next/\eD dO (Nat.succ H.next)=none/\
   aS=⟨(match x.st with|.over e=>e|_=>.normal),T,⟨br.t,br.next,br.dB,dO⟩⟩/\x.st≠.busy/\mK x=false:=by
 unfold uY at U;split at U
 case h_2=>cases U
 case h_1 t ht=>
 split at U
 case h_2=>cases U
 case h_1 f args=>
 split at U
 case h_2=>cases U
 case h_1 cJ fw br aCM=>
 split at U
 case h_2=>cases U
 case h_1 v=>
 unfold Ms at U;split at U
 case h_1=>cases U
 case h_2 x dO aCN=>
 split at U
 case h_2=>cases U
 case h_1 an=>
 rw[Bool.and_eq_true]at an;have sn:x.1=Nat.succ H.next:=eq_of_beq_eq_true an.1;have lB:br.dB<=Nat.succ H.next:=by simp_all
 grind
theorem NW{T:List Value}{bJ:List Tmp}{cS body:Code}{H:ar}(i:Nat):
  (laid T bJ cS body H).cI i=if i=Nat.succ H.next then some (.loop ⟨T,bJ,cS,body,.ready⟩)else if i=H.next then(eD H.dI i).map .loop else H.cI i:=by
 have g:(laid T bJ cS body H).get i=if i=Nat.succ H.next then none else if i=H.next then none else H.get i:=by
  show((H.t.set H.next none).set (Nat.succ H.next) none).get i=_;by_cases h1:i=Nat.succ H.next
  simp_all[Tr.yS]
  rw[if_neg h1,Tr.ly _ _ _ _ h1];by_cases h2:i=H.next
  simp_all[Tr.yS]
  rw[if_neg h2,Tr.ly _ _ _ _ h2];rfl
 have l:eD (laid T bJ cS body H).dI i=if Nat.succ H.next=i then some ⟨T,bJ,cS,body,.ready⟩else eD H.dI i:=qa _ _ _
 unfold ar.cI
 grind
theorem I2{T:List Value}{bJ:List Tmp}{cS body:Code}{H:ar}(wf:og H)(i:Nat):
  (laid T bJ cS body H).cI i=if i=Nat.succ H.next then some (.loop ⟨T,bJ,cS,body,.ready⟩)else if i=H.next then none else H.cI i:=by
 rw[NW];by_cases h1:i=Nat.succ H.next
 simp_all
 rw[if_neg h1,if_neg h1];by_cases h2:i=H.next;rw[if_pos h2,if_pos h2];have aN:H.cI i=none:=Classical.byContradiction fun h=>absurd (wf.lt i h) (by omega)
 simp_all[sj]
 simp_all
theorem NX{T:List Value}{bJ:List Tmp}{cS body:Code}{H:ar}(hf:H.dB<=H.next):gh H (laid T bJ cS body H):=by
 refine⟨by show _<=H.next+2;omega,rfl,fun i aq=>?_,fun i h a6=>?_,fun wf=>⟨fun i aq=>?_,fun i aq=>?_⟩⟩;rw[NW,if_neg (by omega),if_neg (by omega)];rw[NW]at a6;split at a6;rename_i e;subst e;exact⟨by omega,by show _<H.next+2;omega⟩
 grind[sj]
 show i<H.next+2;rw[I2 wf]at aq;split at aq;omega;split at aq;omega;have:=wf.lt i aq;omega;have aE:eD (laid T bJ cS body H).dI i=if Nat.succ H.next=i then some ⟨T,bJ,cS,body,.ready⟩else eD H.dI i:=qa _ _ _
 rw[aE]at aq;show((H.t.set H.next none).set (Nat.succ H.next) none).get i=none;by_cases h1:Nat.succ H.next=i
 simp_all[Tr.yS]
 rw[if_neg h1]at aq;rw[Tr.ly _ _ _ _ (Ne.symm h1)];by_cases h2:i=H.next
 simp_all[Tr.yS]
 rw[Tr.ly _ _ _ _ h2];exact wf.si i aq
theorem akd{br:ar}{l:Nat}{x:ha}{dO:List (Nat×ha)}(aE:br.dI=(l,x)::dO)(lB:br.dB<=l)(I3:eD dO l=none):gh br ⟨br.t,br.next,br.dB,dO⟩:=by
 have h2:∀j,j≠l->eD dO j=eD br.dI j:=fun j bh=>by simp_all[qa,Ne.symm]
 have nn:∀i,i≠l->ar.cI ⟨br.t,br.next,br.dB,dO⟩ i=br.cI i:=fun i aq=>by show(match br.get i with|some b=>some (Obj.cells b)|none=>(eD dO i).map .loop)=_;rw[h2 i aq];rfl
 have sub:∀i,ar.cI ⟨br.t,br.next,br.dB,dO⟩ i≠none->br.cI i≠none:=fun i aq e=>by
  by_cases he:i=l
  simp_all[sj,qa]
  simp_all
 refine⟨Nat.le_refl _,rfl,fun i aq=>nn i (by omega),fun i h a6=>absurd h (sub i a6),fun wf=>⟨fun i aq=>wf.lt i (sub i aq),fun i aq=>?_⟩⟩;show br.get i=none;refine wf.si i fun e=>?_
 grind
theorem lD(bE:h3 P bg)(c6:Bool):∀(c:Code) (T:List Value) (H:ar) (aS:dY),H.dB<=H.next->(dn P c6 c).f bg T H=some aS->gh H aS.H:=by
 intro c;induction c with
 | skip=>intro T H aS _ h;cases h;exact gh.refl _
 | region id bf d=>
  intro T H aS hf h;cases d with
  | true=>
   have h:n5 P bg bf.toList T H=some aS:=h;have a6:=h;unfold n5 at a6;split at a6;obtain⟨_,aJ,h1,_,aB,_,_⟩:=IK bf.toList _ _ _ _ _ a6;exact IM bE h1 hf aB
   grind
  | false=>exact(ud bE bf.toList _ _ _ _ hf h).1
 | seq x y cm vl=>
  intro T H aS hf h;have h:mO ((dn P c6 x).f bg T H) (fun T H=>(dn P c6 y).f bg T H)=some aS:=h;obtain⟨bZ,h1,h2⟩:=so h;have m:=cm _ _ _ hf h1;rcases h2 with⟨_,h2⟩|⟨_,rfl⟩
  exact m.trans (vl _ _ _ (m.wf hf) h2);exact m
 | cond c x y cm vl=>
  intro T H aS hf h;have h:oQ bg ((dT c).g T) (dn P c6 x) (dn P c6 y) T H=some aS:=h;unfold oQ at h
  grind
 | block id x cm=>grind[dn,NV]
 | loop x _=>intro T H aS hf h;exact bE.kt (.loop c6 x T H) aS h hf
 | rangeFunc g bJ cS body _ _=>
  intro T H aS hf h;cases c6 with
  | false=>cases h
  | true=>have h:uY bg ((Cv g).g T) bJ.toList cS body T H=some aS:=h;obtain⟨f,args,cJ,v,br,x,dO,_,h2,aB,bk,cj,rfl,_⟩:=Vi h;have cT:=NX (T:=T) (bJ:=bJ.toList) (cS:=cS) (body:=body) hf;have fk:=bE.kt _ _ h2 (cT.wf hf);exact(cT.trans fk).trans (akd aB bk cj)
 | exit id=>intro T H aS _ h;cases h;exact gh.refl _
 | label l=>intro T H aS _ h;cases h;exact gh.refl _
 | ret=>intro T H aS _ h;cases h;exact gh.refl _
 | _=>intros;rename_i h;cases h
theorem s9.trans{σ τ:cO}{h h1:Nat->Option Obj}{H br:ar}{w dH:World}{ds Vj I4:List Deferred}{aS:dY}(k:gS P B σ h H w)(cH:gq σ H.next br.next)(s:fx B σ h H w τ h1 br dH)(aO:Vj=I4++ds)(hm:Nq τ h1 br H.next I4):
  ∀e cq aV,s9 B τ h1 br dH Vj aS e cq aV->s9 B σ h H w ds aS e cq aV:=by
 rintro e cq aV ⟨bO,Vk,iV,h2,q2,NY,dz,eM⟩;have ld:∀id,h1 id=some .nm->br.cI id=none->id<br.next->h2 id=some .nm/\aS.H.cI id=none:=by
  intro id b7 ca g3;have g4:aS.H.cI id=none:=by
   cases bC:aS.H.cI id with
   | none=>rfl
   | some b=>have:=(eM.kt.cV id ca (by grind)).1;omega
  refine⟨eM.xt id _ ?_,g4⟩
  simp_all[e1]
 refine⟨bO,Vk++I4,iV,h2,by simp_all,⟨fun d FC=>?_,?_⟩,dz,s.trans k cH eM⟩;rcases mem_append.1 FC with FC|FC
 obtain⟨id,c,o,cn,bb,bt,dZ,iX,h0,jm⟩:=NY.C2 d FC;exact⟨id,c,o,cn,bb,bt,dZ,iX,Nat.le_trans s.kt.eu h0,jm⟩;obtain⟨id,c,o,cn,bb,bt,dZ,iX,h0,jm⟩:=hm.C2 d FC;obtain⟨ep,hl⟩:=ld id dZ iX jm;exact⟨id,c,o,cn,bb,eM.gO.mono _ _ bt,ep,hl,h0,Nat.lt_of_lt_of_le jm eM.kt.eu⟩;refine pairwise_append.2 ⟨NY.A0,hm.A0,fun d pq eQ qL=>?_⟩;obtain⟨id,c,o,cn,bb,bt,dZ,iX,h0,jm⟩:=NY.C2 d pq;obtain⟨tO,b5,dd,aCO,gM,gN,mU,lE,pE,rF⟩:=hm.C2 eQ qL;obtain⟨ep,hl⟩:=ld tO mU lE rF;rw[bb,gM];intro e;injection e with e
 exact eM.gO.fD.la id tO _ _ (by omega) dZ ep rfl _ _ _ _ _ _ bt (eM.gO.mono _ _ gN) e
theorem ake(c:Call)(cW:TypeId)(a:Act)(f:FuncId)(first cap:Array Value)(aL:Operand)(aD:c.callee=.value aL)(hf:a.eval aL=.func (.func f) first cap)(w:World):
  ∃d,(resolve a.eval c cW).run P w=.ok d w/\(invoke d.target d.args).run P w=(callFunc f (first++c.args.map a.eval++cap)).run P w:=by
 simp only[resolve,aD,hf,Deferred.ofValue];exact⟨_,rfl,rfl⟩
theorem akf{σ:cO}{h:Nat->Option Obj}{H:ar}{w:World}(k:gS P B σ h H w){k7:Nat}(H7:Nat.succ (Nat.succ H.next)<=k7)(cH:gq σ H.next k7){T:List Value}{tmps:Array Value}(bd:bH σ T tmps.toList)(bJ:Array Tmp)(cS body:Code)(fn:FuncId):
  let mn:cO:=fun id=>if id=H.next then some (w.heap.size,0,0)else if id=Nat.succ H.next then some (w.heap.size+1,0,0)else σ id
  let a6:Nat->Option Obj:=fun id=>if id=H.next then some .nm else if id=Nat.succ H.next then some (.loop ⟨T,bJ.toList,cS,body,.ready⟩)else h id
  fx B σ h H w mn a6 (laid T bJ.toList cS body H) ((w.alloc (.deferred (some []))).alloc (.loop {state:=.ready,pending:=none,fn,tmps,params:=bJ,assign:=cS,body,defers:=w.heap.size})):=by
 intro mn a6;have eZ:σ H.next=none:=cH _ (Nat.le_refl _) (by omega);have fI:σ (Nat.succ H.next)=none:=cH _ (by omega) (by omega);have da:Nat.succ H.next≠H.next:=by omega
 have mono:∀id x,σ id=some x->mn id=some x:=by grind
 have hh:∀id b,h id=some b->id≠H.next/\id≠Nat.succ H.next:=by
  intro id b an;obtain⟨c,o,s,e⟩:=(k.fD.fC id b an).we
  grind
 have lt:∀id b c o s,h id=some b->σ id=some (c,o,s)->c<w.heap.size:=fun id b c o s an aD=>((k.fD.fC id b an).eF aD).2
 generalize hL:(Loop.mk LoopState.ready none fn tmps bJ cS body w.heap.size)=L;have ve:∀c,c<w.heap.size->((w.alloc (.deferred (some []))).alloc (.loop L)).heap[c]?=w.heap[c]?:=by
  intro c aD;show((w.heap.push _).push _)[c]?=_
  grind
 have xw:((w.alloc (.deferred (some []))).alloc (.loop L)).heap[w.heap.size]?=some (.deferred (some [])):=by
  show((w.heap.push _).push _)[_]?=_
  grind
 have akg:((w.alloc (.deferred (some []))).alloc (.loop L)).heap[w.heap.size+1]?=some (.loop L):=by
  show((w.heap.push _).push _)[_]?=_
  grind
 have fj:((w.alloc (.deferred (some []))).alloc (.loop L)).heap.size=w.heap.size+2:=by simp_all
 have uc:∀id b,a6 id=some b->(id=H.next/\b=.nm)\/(id=Nat.succ H.next/\b=.loop ⟨T,bJ.toList,cS,body,.ready⟩)\/(id≠H.next/\id≠Nat.succ H.next/\h id=some b):=by grind
 have di:mn H.next=some (w.heap.size,0,0):=if_pos rfl;have cP:mn (Nat.succ H.next)=some (w.heap.size+1,0,0):=by grind
 have sq:∀id,id≠H.next->id≠Nat.succ H.next->mn id=σ id:=fun id bb bt=>by grind
 have aCP:∀id b,h id=some b->rD mn ((w.alloc (.deferred (some []))).alloc (.loop L)) id b:=by
  intro id b an;have bC:=k.fD.fC id b an;have aE:=lt id b;cases b with
  | cells x=>obtain⟨c,o,s,db,cW,ec,h1,h2,aB,bk,cj,dh⟩:=bC;exact⟨c,o,s,db,cW,ec,mono _ _ h1,by simp_all,aB,bk,cj.mono mono,dh⟩
  | loop x=>obtain⟨c,o,s,cA,h1,h2,aB⟩:=bC;exact⟨c,o,s,cA,mono _ _ h1,by simp_all,aB.mono mono⟩
  | nm=>obtain⟨c,o,s,h1,h2⟩:=bC;exact⟨c,o,s,mono _ _ h1,by simp_all⟩
 have fD:lh mn B a6 ((w.alloc (.deferred (some []))).alloc (.loop L)):=by
  refine⟨fun id b an=>?_,fun id b an aM=>?_,fun i j ib gf p9 aq bh aM=>?_⟩;rcases uc id b an with⟨rfl,rfl⟩|⟨rfl,rfl⟩|⟨_,_,an⟩
  exact⟨_,_,_,di,xw⟩;subst hL;exact⟨_,_,_,_,cP,akg,_,rfl,bd.mono mono,rfl,rfl,rfl,rfl,rfl⟩
  simp_all
  rcases uc id b an with⟨rfl,rfl⟩|⟨rfl,rfl⟩|⟨_,_,an⟩
  exact⟨_,_,_,di,k.dP⟩;exact⟨_,_,_,cP,Nat.le_trans k.dP (le_succ _)⟩;obtain⟨c,o,s,bb,bt⟩:=k.fD.own id b an aM
  simp_all
  intro c o s b5 dd cn aD gx;rcases uc i ib aq with⟨rfl,rfl⟩|⟨rfl,rfl⟩|⟨c1,c2,aq⟩<;>rcases uc j gf bh with⟨rfl,rfl⟩|⟨rfl,rfl⟩|⟨b1,b2,bh⟩
  omega
  simp_all
  grind
  simp_all
  omega
  grind
  grind
  grind
  rw[sq i c1 c2]at aD;rw[sq j b1 b2]at gx;exact k.fD.la i j ib gf p9 aq bh aM _ _ _ _ _ _ aD gx
 refine⟨⟨fD,by show _<=H.next+2;omega,fun id eW=>sq id (fun e=>?_) (fun e=>?_),mono,rfl,rfl,rfl,by omega,fun c aD _=>ve c aD,fun c ⟨id,b,o,s,an,aM,aD⟩ dy=>?_⟩,fun id b an=>?_,fun id b an=>?_,NX k.ck⟩;rcases eW with h1|h1
 omega;have:H.next+2<=id:=h1;omega;rcases eW with h1|h1
 omega;have:H.next+2<=id:=h1;omega;rcases uc id b an with⟨rfl,rfl⟩|⟨rfl,rfl⟩|⟨c1,c2,an⟩
 simp_all
 grind
 rw[sq id c1 c2]at aD;exact⟨id,b,o,s,an,aM,aD⟩;rw[I2 k.wf]at an;split at an
 grind
 rename_i bb;split at an;cases an;rename_i bt;show(if _ then _ else _)=_;rw[if_neg bt,if_neg bb];exact k.sub id b an;unfold e1 at an;split at an
 grind
 rw[I2 k.wf]at an;split at an
 grind
 rename_i bb;split at an;cases an;rename_i bt;show(if _ then _ else _)=_;rw[if_neg bt,if_neg bb];exact k.sub id b an
theorem FD(dA:c8 P)(bE:h3 P bg)(c6:Bool):∀(c:Code) (T:List Value) (H:ar) (aS:dY),(dn P c6 c).f bg T H=some aS->
  ∀(σ:cO) (h:Nat->Option Obj) (w:World) (a:Act) (r:Option Nat),(c6=true->r=none)->gS P B σ h H w->gq σ H.next aS.H.next->bH σ T a.tmps.toList->c.wpIn (ei r) 0 P (s9 B σ h H w a.defers aS) a w:=by
 intro c;have plain:∀ {σ:cO} {h:Nat->Option Obj} {H:ar} {w:World} {a:Act} {aS:dY} {e:Exit} {τ:cO} {a6:Nat->Option Obj} {cq:Act} {aV:World},e=AZ aS.cJ->cq.defers=a.defers->bH τ aS.T cq.tmps.toList->fx B σ h H w τ a6 aS.H aV->s9 B σ h H w a.defers aS e cq aV:=
  fun bO q2 dz eM=>⟨bO,[],_,_,q2,⟨by simp,.nil⟩,dz,eM⟩
 induction c with
 | skip=>intro T H aS U σ h w a r _ k _ bd;cases U;exact wpIn_skip (plain rfl rfl bd (fx.refl k))
 | region id bf d=>
  intro T H aS U σ h w a r _ k cH bd;cases d with
  | true=>exact akc dA bE bf id r k cH bd U
  | false=>refine wpIn_region ?_;have hm:=ud bE bf.toList _ _ _ _ k.ck U;rw[range_eq_range',<- Array.length_toList];refine Fu dA bE bf r bf.toList 0 (by simp) σ h T H w a aS k cH bd U ?_;intro τ a6 cq aV bO q2 dz;exact plain (by rw[hm.2];rfl) q2 bO dz
 | seq x y cm vl=>
  intro T H aS U σ h w a r ht k cH bd;have U:mO ((dn P c6 x).f bg T H) (fun T H=>(dn P c6 y).f bg T H)=some aS:=U;obtain⟨bZ,h1,h2⟩:=so U;have fk:=lD bE c6 x _ _ _ k.ck h1;refine wpIn_seq ?_;rcases h2 with⟨al,h2⟩|⟨al,rfl⟩
  ·have dE:=lD bE c6 y _ _ _ (fk.wf k.ck) h2;refine wpIn_mono (cm _ _ _ h1 σ h w a r ht k (cH.left dE.eu) bd) ?_;rintro e cq aV ⟨bO,ms,τ,a6,q2,Da,dz,eM⟩;rw[al]at bO;subst bO;show y.wpIn (ei r) 0 P (s9 B σ h H w a.defers aS) cq aV;exact wpIn_mono (vl _ _ _ h2 τ a6 aV cq r ht (k.next eM) (cH.right eM.gO) dz) (s9.trans k (cH.left dE.eu) eM q2 Da)
  ·refine wpIn_mono (cm _ _ _ h1 σ h w a r ht k cH bd) ?_;rintro e cq aV q;have bO:=q.1;cases he:aS.cJ with
   | normal=>simp_all
   | exit id=>rw[he]at bO;subst bO;exact q
   | ret=>rw[he]at bO;subst bO;exact q
 | cond c x y cm vl=>
  intro T H aS U σ h w a r ht k cH bd;have U:oQ bg ((dT c).g T) (dn P c6 x) (dn P c6 y) T H=some aS:=U;unfold oQ at U
  grind[wpIn_cond,I1]
 | block id x cm=>
  intro T H aS U σ h w a r ht k cH bd;have U:Ay id ((dn P c6 x).f bg T H)=some aS:=U;obtain⟨bZ,h1,yX,akh,h2⟩:=NV U;refine wpIn_block ?_;rw[akh]at cH;refine wpIn_mono (cm _ _ _ h1 σ h w a r ht k cH bd) ?_;rintro e cq aV ⟨bO,ms,τ,a6,q2,Da,dz,eM⟩;have ed:∀e,e=AZ aS.cJ->s9 B σ h H w a.defers aS e cq aV:=fun e he=>⟨he,ms,τ,a6,q2,by simp_all,by simp_all,by simp_all⟩
  rcases h2 with⟨b7,ca⟩|⟨b7,ca⟩
  ·rw[b7]at bO;subst bO;show(if id=id then _ else _);rw[if_pos rfl];exact ed _ (by rw[ca];rfl)
  ·cases he:bZ.cJ with
   | normal=>rw[he]at bO;subst bO;exact ed _ (by grind)
   | ret=>rw[he]at bO;subst bO;exact ed _ (by grind)
   | exit i=>rw[he]at bO;subst bO;show(if i=id then _ else _);rw[if_neg (fun e=>b7 (by rw[he,e]))];exact ed _ (by rw[ca,he];rfl)
 | loop x _=>intro T H aS U σ h w a r ht k cH bd;obtain⟨n,aR⟩:=bE.loop;exact wpIn_loop_rounds n (aR c6 x T H aS U B σ h w a r ht k cH bd)
 | rangeFunc g bJ cS body _ _=>
  intro T H aS U σ h w a r ht k cH bd;cases c6 with
  | false=>cases U
  | true=>
   have xC:=ht rfl;subst xC;have U:uY bg ((Cv g).g T) bJ.toList cS body T H=some aS:=U;obtain⟨f,args,cJ,v,br,x,dO,bb,bt,dZ,iX,h0,jm,ue,xD⟩:=Vi U;have cT:=NX (T:=T) (bJ:=bJ.toList) (cS:=cS) (body:=body) k.ck;have fk:=bE.kt _ _ bt (cT.wf k.ck);have tV:Nat.succ (Nat.succ H.next)<=br.next:=fk.eu;have I5:gq σ H.next br.next:=by simp_all
   have di:=akf k tV I5 bd bJ cS body;refine wpIn_rangeFunc fun fn _=>?_
   have di:=di fn;revert di;generalize aCQ:(fun id=>if id=H.next then some (w.heap.size,0,0)else if id=Nat.succ H.next then some (w.heap.size+1,0,0)else σ id:cO)=mn;generalize wk:(fun id=>if id=H.next then some Obj.nm else if id=Nat.succ H.next then some (.loop ⟨T,bJ.toList,cS,body,.ready⟩)else h id:Nat->Option Obj)=a6;intro di;have ep:=k.next di;have gM:mn H.next=some (w.heap.size,0,0):=by grind
   have gN:mn (Nat.succ H.next)=some (w.heap.size+1,0,0):=by grind
   have mU:a6 H.next=some .nm:=by grind
   unfold tL at bb;split at bb
   case h_2=>cases bb
   case h_1 gz first cap I6=>
   split at bb
   case h_3=>cases bb
   case h_2 l=>grind
   case h_1 aCR=>
   cases bb;have qQ:∃xz ua,a.eval g=.func (.func f) xz ua/\bH σ first.toList xz.toList/\bH σ cap.toList ua.toList:=by
    cases g with
    | tmp i=>
     have h1:b4 T i=.func (.func f) first cap:=I6
     have h2:=bd.getD i;rw[oR]at h1;rw[h1]at h2;have aB:a.tmps.toList.getD i undef=a.tmps.getD i undef:=by grind[Array.getD_eq_getD_getElem?]
     rw[aB]at h2;show∃xz ua,a.tmps.getD i undef=_/\_;generalize a.tmps.getD i undef=u at h2;cases h2
     grind
    | const u=>cases I6
    | global i=>cases I6
    | func i=>cases I6
   obtain⟨xz,ua,b7,ca,g3⟩:=qQ;have A3:bH mn (hP first.toList (hP [uX (Nat.succ H.next)] cap.toList)) (xz++#[Value.func (.yield (w.heap.size+1)) #[] #[]]++ua).toList:=by rw[iv,iv];simp only[Array.toList_append];rw[append_assoc];exact(ca.mono di.gO.mono).append (bH.append (.ry _ _ _ _ gN .nil) (g3.mono di.gO.mono))
   obtain⟨⟨aCS,cc,hf,an⟩,wm⟩:=bE.call f _ _ cJ v br bt B mn a6 _ _ ep (I5.right di.gO) A3;obtain⟨d,d1,d2⟩:=ake (P:=P) (rangeCall g (w.heap.size+1)) 0 a f xz ua g rfl b7 ((w.alloc (.deferred (some []))).alloc (.loop {state:=.ready,pending:=none,fn,tmps:=a.tmps,params:=bJ,assign:=cS,body,defers:=w.heap.size}));refine⟨w.heap.size+1,[{target:=.collected w.heap.size,args:=#[]}],_,d,_,f,xz++#[Value.func (.yield (w.heap.size+1)) #[] #[]]++ua,(w.alloc (.deferred (some []))).alloc (.loop {state:=.ready,pending:=none,fn,tmps:=a.tmps,params:=bJ,assign:=cS,body,defers:=w.heap.size}),run_enterLoop_outer fn a.tmps bJ cS body,d1,fun _ _=>trivial,?_,fun aO=>absurd aO (by simp),?_⟩
   ·rw[d2,IA dA hf an];have aki:(rangeCall g (w.heap.size+1)).args.map a.eval=#[Value.func (.yield (w.heap.size+1)) #[] #[]]:=by simp only[map_toArray,map_cons,map_nil];rfl
    rw[aki]
   refine CallsIn.mono wm ?_;rintro e ka ⟨aH,τ,aB,rfl,_,cP⟩;have oe:=ep.next cP;have mR:eD br.dI (Nat.succ H.next)=some x:=by rw[dZ,qa,if_pos rfl]
   have dJ:=cP.gO.mono _ _ gN;have aW:=cP.gO.mono _ _ gM;obtain⟨_,c,o,s,L,bO,q2,dz,eM⟩:=oe.IY mR xD;rw[dJ]at bO;cases bO;have Db:L.state≠.busy:=by
    have:=eM.st;cases al:x.st with
    | ready=>rw[al]at this;rw[this.1];simp
    | busy=>simp_all
    | over e=>rw[al]at this;cases e with
     | normal=>exact this.elim
     | ret=>rw[this.1];simp
     | exit id=>rw[this.1];simp
   have sq:=Vc oe mR xD iX (C9:=dO) none h0 (fun j bh=>by rw[dZ,qa,if_neg (Ne.symm bh)]) dJ (.loop {L with state:=.exhausted}) (fun _ h=>by cases h);have akj:aB H.next=some .nm/\br.cI H.next=none:=by
    have z0:(laid T bJ.toList cS body H).cI H.next=none:=by rw[I2 k.wf,if_neg (by omega),if_pos rfl]
    have lA:br.cI H.next=none:=by
     cases bC:br.cI H.next with
     | none=>rfl
     | some b=>have:=(cP.kt.cV _ z0 (by grind)).1;have:H.next+2<=H.next:=this;omega
    refine⟨cP.xt _ _ ?_,lA⟩;unfold e1
    grind
   have mq:∀e,e=AZ aS.cJ->s9 B σ h H w a.defers aS e {a with defers:=[{target:=.collected w.heap.size,args:=#[]}]++a.defers} (ka.putObj (w.heap.size+1) (.loop {L with state:=.exhausted})):=by
    intro e he;have aCT:(if H.next=Nat.succ H.next then(none:Option ha).map Obj.loop else aB H.next)=some .nm:=by grind
    have y9:ar.cI ⟨br.t,br.next,br.dB,dO⟩ H.next=none:=by rw[sj];have:=sj.1 akj.2;refine⟨this.1,?_⟩;have h2:=this.2;rw[dZ,qa,if_neg (by omega)]at h2;exact h2
    subst jm;refine⟨he,[{target:=.collected w.heap.size,args:=#[]}],τ,(fun id=>if id=Nat.succ H.next then(none:Option ha).map Obj.loop else aB id),rfl,⟨?_,by simp⟩,?_,?_⟩
    rotate_left 2
    ·exact di.trans k (I5.left fk.eu |>.left (Nat.le_refl _)) (cP.trans ep (I5.right di.gO) sq)
    ·grind
    ·exact bd.mono fun id x al=>cP.gO.mono _ _ (di.gO.mono _ _ al)
   refine⟨L.pending,_,run_endLoop dz Db,?_⟩;have oh:aS.cJ=(match x.st with|.over e=>e|_=>.normal):=by rw[jm]
   have hb:=eM.st;cases al:x.st with
   | ready=>
    rw[al]at hb oh;split
    ·exact mq _ (by rw[oh];rfl)
    ·rename_i bS;rw[hb.2]at bS;cases bS
   | busy=>simp_all
   | over e=>
    rw[al]at hb oh;cases e with
    | normal=>exact hb.elim
    | ret=>
     split
     ·rename_i bS;rw[hb.2]at bS;cases bS
     ·rename_i bS;rw[hb.2]at bS;cases bS;exact wpIn_ret (mq _ (by rw[oh];rfl))
    | exit id=>
     split
     ·rename_i bS;rw[hb.2]at bS;cases bS
     ·rename_i bS;rw[hb.2]at bS;cases bS;exact wpIn_exit (mq _ (by rw[oh];rfl))
 | exit id=>intro T H aS U σ h w a r _ k _ bd;cases U;exact wpIn_exit (plain rfl rfl bd (fx.refl k))
 | label l=>intro T H aS U σ h w a r _ k _ bd;cases U;exact wpIn_label (plain rfl rfl bd (fx.refl k))
 | ret=>intro T H aS U σ h w a r _ k _ bd;cases U;exact wpIn_ret (plain rfl rfl bd (fx.refl k))
 | _=>intros;rename_i U _ _ _ _ _ _ _ _ _;cases U
end
end Go.Ab
namespace Go.Ab
open Go
variable[hD]
section
variable{P:Program}{bg:hz}{B:Nat}
theorem Vl{t:TypeId}{a v:Value}{H aa:ar}(U:(nI P t).f a H=some (v,aa)):∃id off,a=.pointer (some ⟨id,off,none⟩):=by
 unfold nI at U;split at U;simp only[bT]at U
 grind
 simp only[ax]at U
 grind
 grind
def I7(tmps:Array Value):ResultVar->Sem Value
 | .tmp t=>pure (tmps.getD t undef)
 | .cell a t=>do loadVar t (<- asAddr (tmps.getD a undef))
section
variable{σ:cO}{h:Nat->Option Obj}{H:ar}{w:World}{T:List Value}{tmps:Array Value}
theorem Vm(k:gS P B σ h H w)(bd:bH σ T tmps.toList){r:ResultVar}{v:Value}(U:CB P T H r=some v):∃aH,(I7 tmps r).run P w=.ok aH w/\ch σ v aH:=by
 have nL:∀i,ch σ (b4 T i) (tmps.getD i undef):=fun i=>by
  have h2:=bd.getD i
  simp_all[oR]
 cases r with
 | tmp t=>cases U;exact⟨_,rfl,nL t⟩
 | cell a t=>
  unfold CB at U;simp only at U;split at U;rename_i u br aE;cases U;obtain⟨id,off,he⟩:=Vl aE;obtain⟨_,aH,h1,h2⟩:=T1 k.fD.cells (fun id _ b an=>wc.2 (k.sub id _ (by simp_all[ar.cI]))) (nL a) aE;refine⟨aH,?_,h2⟩;have hg:=nL a;rw[he]at hg;obtain⟨_,c,o,s,bS,_⟩:=hg.Fb
  simp_all[Instr.loadAt,Instr.sureAddr,I7,asAddr]
  grind
theorem Vn(k:gS P B σ h H w)(bd:bH σ T tmps.toList):∀(dq:List ResultVar) (vs:List Value),yP P T H dq=some vs->∃mQ,(dq.mapM (I7 tmps)).run P w=.ok mQ w/\bH σ vs mQ
 | [],vs,U=>by cases U;exact⟨[],rfl,.nil⟩
 | r::dq,vs,U=>by unfold yP at U;split at U;rename_i v h1;split at U;rename_i akk h2;cases U;obtain⟨aH,b7,ca⟩:=Vm k bd h1;obtain⟨akl,g3,g4⟩:=Vn k bd dq akk h2;exact⟨aH::akl,by simp only[mapM_cons,Sem.run_bind,b7,Result.andThen_ok,g3,Sem.run_pure],ca.cons g4⟩;cases U;cases U
theorem I8(fn:Func)(tmps:Array Value):results fn tmps=(do let vs<-fn.results.mapM (I7 tmps);pure (if h:vs.size=1 then vs[0]else .tuple vs)):=by rfl
theorem I9(k:gS P B σ h H w){fn:Func}(bd:bH σ T tmps.toList){v:Value}(U:yQ P fn.results.toList T H=some v):∃aH,(results fn tmps).run P w=.ok aH w/\ch σ v aH:=by
 rw[I8,Array.mapM_eq_mapM_toList];unfold yQ at U;split at U;rename_i r he;obtain⟨aH,b7,ca⟩:=Vm k bd U
 simp_all
 rename_i da;split at U;rename_i vs aE;cases U;obtain⟨mQ,b7,ca⟩:=Vn k bd _ _ aE;refine⟨.tuple mQ.toArray,?_,.tuple _ _ (by omega) .nil⟩;simp only[Sem.run_bind,Sem.run_map,b7,Result.andThen_ok,Sem.run_pure];have:¬mQ.toArray.size=1:=by
  intro h1;have h2:=ca.length;have aB:∀(dq:List ResultVar) (vs:List Value),yP P T H dq=some vs->vs.length=dq.length:=by
   intro dq;induction dq with
   | nil=>intro vs h;cases h;rfl
   | cons r dq a7=>grind[yP]
  grind[length_eq_one_iff]
 simp_all
 grind
end
theorem NZ{f:FuncId}{args:List Value}{H:ar}{aS:dY}(U:(tP P f).f bg args H=some aS):
  ∃fn c bZ v,P.funcs[f]?=some fn/\fn.body=some c/\(dn P true c).f bg (args++List.replicate (fn.ntmps-args.length) undef) H=some bZ/\(∀id,bZ.cJ≠.exit id)/\yQ P fn.results.toList bZ.T bZ.H=some v/\aS=⟨.ret,[v],bZ.H⟩:=by
 unfold tP at U;split at U;rename_i fn hf;split at U;rename_i c an;simp only at U;unfold u0 at U
 grind[iv,y8,gE]
 grind
 grind
theorem Vo{σ:cO}{h:Nat->Option Obj}{H:ar}{w:World}(fn:Func)(ig:gS P B σ h H w)(lB:H.dB<=H.next):
  ∀(ms:List Deferred) {τ:cO} {h1:Nat->Option Obj} {br:ar} {dH:World} {T:List Value} {tmps:Array Value} {v:Value},gq σ H.next br.next->Nq τ h1 br H.next ms->fx B σ h H w τ h1 br dH->bH τ T tmps.toList->yQ P fn.results.toList T br=some v->
   LeavesInM (ei none) 0 P fn tmps (fun e aV=>∃aH τ a6,e=.returned aH/\ch τ v aH/\fx B σ h H w τ a6 br aV) ms .returning dH
 | [],τ,h1,br,dH,T,tmps,v,cH,hm,st,bd,rC=>by obtain⟨aH,b7,ca⟩:=I9 (ig.next st) bd rC;exact⟨aH,b7,aH,τ,h1,rfl,ca,st⟩
 | d::ms,τ,h1,br,dH,T,tmps,v,cH,hm,st,bd,rC=>by
  refine⟨by simp,.inl ?_⟩;obtain⟨id,c,o,s,bb,bt,dZ,iX,h0,jm⟩:=hm.C2 d (by simp);have ep:=ig.next st;have y0:=ep.fD.fC id _ dZ;obtain⟨b5,dd,cn,bO,q2⟩:=y0;rw[bt]at bO;cases bO;refine⟨c,_,bb,run_takeDeferred q2,?_⟩;have Fq:∀j b b5 dd cn,j≠id->h1 j=some b->τ j=some (b5,dd,cn)->b5≠c:=fun j b b5 dd cn da an gx e=>by subst e;exact ep.fD.la id j _ b (Ne.symm da) dZ an rfl _ _ _ _ _ _ bt gx rfl
  have aD:c<dH.heap.size:=(Array.getElem?_eq_some_iff.1 q2).1;have fD:lh τ B (fun j=>if j=id then none else h1 j) (dH.putObj c (.deferred none)):=by refine⟨fun j b an=>?_,fun j b an aM=>?_,fun i j ib gf p9 aq bh aM=>?_⟩;have an:(if j=id then none else h1 j)=some b:=an;split at an;cases an;rename_i da;have bC:=ep.fD.fC j b an;obtain⟨eP,bZ,di,gM⟩:=bC.we;exact bC.put gM (Fq j b _ _ _ da an gM);have an:(if j=id then none else h1 j)=some b:=an;split at an;cases an;exact ep.fD.own j b an aM;have aq:(if i=id then none else h1 i)=some ib:=aq;have bh:(if j=id then none else h1 j)=some gf:=bh;split at aq;cases aq;split at bh;cases bh;exact ep.fD.la i j ib gf p9 aq bh aM
  have ca:i6 B τ h1 br.next dH τ (fun j=>if j=id then none else h1 j) br.next (dH.putObj c (.deferred none)):=by refine⟨fD,Nat.le_refl _,fun _ _=>rfl,fun _ _ h=>h,rfl,rfl,rfl,Nat.le_of_eq World.putObj_size.symm,fun x al ey=>?_,fun x ⟨j,b,bZ,di,an,aM,al⟩ _=>?_⟩;refine World.putObj_heap_other ?_;rintro rfl;exact ey ⟨id,_,o,s,dZ,rfl,bt⟩;have an:(if j=id then none else h1 j)=some b:=an;split at an;cases an;exact⟨j,b,bZ,di,an,aM,al⟩
  have akm:fx B σ h H w τ (fun j=>if j=id then none else h1 j) br (dH.putObj c (.deferred none)):=by
   refine⟨st.gO.trans ca,fun j b an=>?_,fun j b an=>?_,st.kt⟩;show(if j=id then none else h1 j)=some b;rw[if_neg (fun e=>by simp_all)];exact ep.sub j b an;show(if j=id then none else h1 j)=some b;by_cases bh:j=id;exfalso;subst bh;have vk:H.cI j=none:=Classical.byContradiction fun e=>absurd (ig.wf.lt j e) (by omega)
   unfold e1 at an;rw[if_pos (by grind)]at an;obtain⟨eP,bZ,di,gM⟩:=(ig.fD.fC j b an).we;rw[cH j h0 jm]at gM;cases gM;rw[if_neg bh];exact st.xt j b an
  refine Vo fn ig lB ms cH ⟨fun eQ Vp=>?_,(pairwise_cons.1 hm.A0).2⟩ akm bd rC;obtain⟨tO,eP,bZ,di,gM,gN,mU,lE,pE,rF⟩:=hm.C2 eQ (by simp[Vp]);refine⟨tO,eP,bZ,di,gM,gN,?_,lE,pE,rF⟩;show(if tO=id then none else h1 tO)=_;rw[if_neg ?_];exact mU;rintro rfl;rw[bt]at gN;cases gN;exact(pairwise_cons.1 hm.A0).1 eQ Vp (by grind)
theorem akn(dA:c8 P)(bE:h3 P bg){f:FuncId}{args:List Value}{H aa:ar}{cJ:mJ}{v:Value}(U:(tP P f).f bg args H=some ⟨cJ,[v],aa⟩){σ:cO}{h:Nat->Option Obj}{w:World}{fN:Array Value}(k:gS P B σ h H w)(cH:gq σ H.next aa.next)(hv:bH σ args fN.toList):
  (∃fn c,P.funcs[f]?=some fn/\fn.body=some c)/\CallsIn (ei none) 0 P f fN w (fun e aV=>∃aH τ a6,e=.returned aH/\ch τ v aH/\fx B σ h H w τ a6 aa aV):=by
 obtain⟨fn,c,bZ,dS,hf,an,aD,al,rC,bC⟩:=NZ U;cases bC;refine⟨⟨fn,c,hf,an⟩,callsIn_of_wp_marks hf an trivial ?_⟩;have hlen:args.length=fN.size:=by have:=hv.length;omega
 have bd:bH σ (args++List.replicate (fn.ntmps-args.length) undef) (fN++Array.replicate (fn.ntmps-fN.size) undef).toList:=by
  rw[Array.toList_append,Array.toList_replicate,hlen];refine hv.append ?_;generalize fn.ntmps-fN.size=n;induction n with
  | zero=>exact .nil
  | succ n a7=>exact ch.undef.cons a7
 refine wpIn_mono (FD dA bE true c _ _ _ aD σ h w _ none (fun _=>rfl) k cH bd) ?_;rintro e cq aV ⟨bO,ms,τ,a6,q2,Da,dz,eM⟩;have ako:cq.defers=ms:=by grind
 have mq:LeavesInM (ei none) 0 P fn cq.tmps (fun e aV=>∃aH τ a6,e=.returned aH/\ch τ v aH/\fx B σ h H w τ a6 bZ.H aV) cq.defers .returning aV:=by rw[ako];exact Vo fn k k.ck ms cH Da eM dz rC
 cases he:bZ.cJ with
 | exit id=>simp_all
 | normal=>rw[he]at bO;subst bO;exact mq
 | ret=>rw[he]at bO;subst bO;exact mq
theorem Vq{l:Nat}{H aa:ar}(U:Az l H=some aa):∃r,eD H.dI l=some r/\r.st=.ready/\uZ l .busy H=some aa:=by
 unfold Az at U;split at U;rename_i r aE;split at U;rename_i aw;refine⟨r,aE,?_,U⟩;cases h:r.st with
 | ready=>rfl
 | busy=>rw[h]at aw;cases aw
 | over e=>rw[h]at aw;cases aw
 grind
 grind
theorem Vr{l:Nat}{args:List Value}{H:ar}{aS:dY}(U:vY P bg l args H=some aS):
  ∃r bZ cB dr iN,(eD H.dI l=some r/\mK r=false)/\args.length=r.bJ.length/\(dn P false r.cS).f bg (uW r.T r.bJ args) H=some bZ/\bZ.cJ=.normal/\Az l bZ.H=some cB/\(dn P false r.body).f bg bZ.T cB=some dr/\uZ l (CC dr.cJ) dr.H=some iN/\aS=⟨.ret,[.bool (yR dr.cJ)],iN⟩:=by
 unfold vY at U;split at U
 case h_2=>cases U
 case h_1 r aE=>
 split at U
 case h_2=>cases U
 case h_1 hlen=>
 obtain⟨bZ,h1,h2,aB⟩:=Vh U;split at aB
 case h_2=>cases aB
 case h_1 cB an=>
 unfold E5 at aB;split at aB
 case h_2=>cases aB
 case h_1 e aCU iN N0=>
 split at aB
 case h_2=>cases aB
 case h_1 uf hm=>
 cases aB;rw[gE,gE,Bool.and_eq_true]at hlen
 grind[eq_of_beq_eq_true]
theorem Vs{σ:cO}:∀(bJ:List Tmp) (T:List Value) (tmps:Array Value) (args:List Value) (fN:List Value),bH σ T tmps.toList->bH σ args fN->
  bH σ (uW T bJ args) ((bJ.zip fN).foldl (fun tmps (x:Tmp×Value)=>tmps.setIfInBounds x.1 x.2) tmps).toList
 | [],T,tmps,args,fN,bd,_=>by cases args<;>exact bd
 | p::bJ,T,tmps,[],fN,bd,bp=>by rw[bp.qI];exact bd
 | p::bJ,T,tmps,v::vs,fN,bd,bp=>by obtain⟨aH,dx,rfl,hv,U⟩:=bp.mP;show bH σ (uW (gJ T p v) bJ vs) _;rw[zip_cons_cons,foldl_cons];refine Vs bJ _ _ vs dx ?_ U;rw[oS,Array.toList_setIfInBounds];exact bd.set p hv
theorem akp(dA:c8 P)(bE:h3 P bg){l:Nat}{args:List Value}{H aa:ar}{cJ:mJ}{v:Value}(U:vY P bg l args H=some ⟨cJ,[v],aa⟩){σ:cO}{h:Nat->Option Obj}{w:World}{fN:Array Value}{c o s:Nat}(r:Option Nat)(k:gS P B σ h H w)(cH:gq σ H.next aa.next)(hv:bH σ args fN.toList)(dU:σ l=some (c,o,s)):
  ∃fn tmps cS body,(Instr.yield c fN).run P w=.ok (.round c fn tmps cS body) w/\RoundIn (ei r) 0 P c fn tmps cS body w (fun e aV=>∃aH τ a6,e=.returned aH/\ch τ v aH/\fx B σ h H w τ a6 aa aV):=by
 obtain⟨l6,bZ,cB,dr,iN,aE,hlen,h1,Fp,an,h2,hm,bC⟩:=Vr U;obtain⟨ic,MY,Oa⟩:cJ=.ret/\v=.bool (yR dr.cJ)/\aa=iN:=by simp_all
 subst ic MY;rw[Oa]at cH⊢;clear bC;obtain⟨_,b5,dd,cn,L,bO,q2,dz,eM⟩:=k.IY aE.1 aE.2;rw[dU]at bO;cases bO;have fj:fN.size=L.params.size:=by
  have bb:=hv.length;have bt:=congrArg List.length eM.bJ
  simp_all
 obtain⟨akq,Vt,lT,qR⟩:=Vq an;have fk:=lD bE false _ _ _ _ k.ck h1;have dE:=I0 qR;have tX:=lD bE false _ _ _ _ (dE.wf (fk.wf k.ck)) h2;have xn:=I0 hm;have Ja:iN.next=dr.H.next:=by obtain⟨_,_,_,_,e⟩:=IZ hm;rw[e]
 have Vu:cB.next=bZ.H.next:=by obtain⟨_,_,_,_,e⟩:=IZ qR;rw[e]
 refine⟨_,_,_,_,run_yield dz fj,roundIn_of_wpIn trivial ?_⟩;rw[eM.cS,eM.body];have bd:bH σ (uW l6.T l6.bJ args) ((L.params.zip fN).foldl (fun tmps (x:Tmp×Value)=>tmps.setIfInBounds x.1 x.2) L.tmps).toList:=by rw[<- Array.foldl_toList,Array.toList_zip,eM.bJ];exact Vs _ _ _ _ _ eM.T hv
 refine wpIn_mono (FD dA bE false l6.cS _ _ _ h1 σ h w _ (some c) (fun h=>by cases h) k (cH.left (by rw[Ja,<- Vu];exact tX.eu |> Nat.le_trans (Nat.le_refl _))) bd) ?_;rintro e c1 dH ⟨cC,I4,τ,aB,bw,cG,eX,cM⟩;rw[Fp]at cC;subst cC;have ep:=k.next cM;have akr:gq τ bZ.H.next iN.next:=cH.right cM.gO;have aks:gq σ H.next bZ.H.next:=cH.left (by rw[Ja,<- Vu];exact tX.eu);obtain⟨aCV,Vv,bb,bt,dZ,iX⟩:=Ve ep qR (cM.gO.mono _ _ dU);rw[Vt]at bb;cases bb;have akt:Vv.state=.ready:=by have:=dZ.st;rw[lT]at this;exact this.1
 obtain⟨bk,za⟩:=iX .busy Vv.pending rfl;refine⟨_,run_beginRound bt akt,?_⟩;have hl:=ep.next za;have xi:gq τ cB.next iN.next:=by simp_all
 have aCW:gq τ bZ.H.next cB.next:=akr.left (by rw[Ja];exact tX.eu);refine wpIn_mono (FD dA bE false l6.body _ _ _ h2 τ bk _ c1 (some c) (fun h=>by cases h) hl (xi.left (by omega)) eX) ?_;rintro e c2 e0 ⟨r1,Vk,iV,cj,r2,wo,fe,vm⟩;have oe:=hl.next vm;have ij:=vm.gO.mono _ _ (cM.gO.mono _ _ dU);obtain⟨hF,ff,gM,gN,mU,lE⟩:=Ve oe hm ij;have ed:∀(Ba:Option Code) (y7:LoopState),No (CC dr.cJ) y7 Ba->y7=(if Ba.isNone then .ready else .done)->(Ba.isNone=yR dr.cJ)->
   ∃v aV,(Instr.endRound c Ba).run P e0=.ok v aV/\(∃aH τ a6,Ending.returned v=.returned aH/\ch τ (.bool (yR dr.cJ)) aH/\fx B σ h H w τ a6 iN aV):=by
  intro Ba y7 hb FB bh;obtain⟨dh,aku⟩:=lE y7 Ba hb;refine⟨_,_,run_endRound Ba gN,_,iV,dh,rfl,by rw[bh];exact bH.bool _ .nil,?_⟩;rw[<- FB];have c1:fx B σ h H w iV cj dr.H e0:=(cM.trans k aks za).trans k (cH.left (by rw[Ja];exact tX.eu)) vm;exact c1.trans k (cH.left (by omega)) aku
 cases he:dr.cJ with
 | normal=>rw[he]at r1 ed;subst r1;exact ed none .ready ⟨rfl,rfl⟩ rfl rfl
 | ret=>rw[he]at r1 ed;subst r1;exact ed (some .ret) .done ⟨rfl,rfl⟩ rfl rfl
 | exit id=>rw[he]at r1 ed;subst r1;exact ed (some (.exit id)) .done ⟨rfl,rfl⟩ rfl rfl
theorem vn(dA:c8 P)(bE:h3 P bg):h3 P (step P bg):=by
 refine⟨?_,?_,?_,?_⟩;intro t aS U hf;cases t with
 | loop c6 c T H=>
  have U:mO ((dn P c6 c).f bg T H) (fun T H=>bg (.loop c6 c T H))=some aS:=U;obtain⟨bZ,h1,h2⟩:=so U;have m:=lD bE c6 c _ _ _ hf h1;rcases h2 with⟨_,h2⟩|⟨_,rfl⟩
  exact m.trans (bE.kt _ _ h2 (m.wf hf));exact m
 | call f args H=>have U:(tP P f).f bg args H=some aS:=U;obtain⟨fn,c,bZ,dS,sk,an,aD,al,rC,rfl⟩:=NZ U;exact lD bE true c _ H bZ hf aD
 | round l args H=>have U:vY P bg l args H=some aS:=U;obtain⟨l6,bZ,cB,dr,iN,aE,hlen,h1,Fp,an,h2,hm,rfl⟩:=Vr U;obtain⟨akq,Vt,lT,qR⟩:=Vq an;have fk:=lD bE false _ _ _ _ hf h1;have dE:=I0 qR;have tX:=lD bE false _ _ _ _ (dE.wf (fk.wf hf)) h2;exact((fk.trans dE).trans tX).trans (I0 hm)
 intro f args H cJ v aa U B σ h w fN k cH hv;exact akn dA bE U k cH hv;intro l args H cJ v aa U B σ h w fN c o s r k cH hv dU;exact akp dA bE U r k cH hv dU;obtain⟨n,aR⟩:=bE.loop;refine⟨n+1,?_⟩;intro c6 c T H aS U B σ h w a r ht k cH bd;have U:mO ((dn P c6 c).f bg T H) (fun T H=>bg (.loop c6 c T H))=some aS:=U;obtain⟨bZ,h1,h2⟩:=so U;have fk:=lD bE c6 c _ _ _ k.ck h1;show c.wpIn (ei r) 0 P _ a w;rcases h2 with⟨al,h2⟩|⟨al,rfl⟩
 have dE:gh bZ.H aS.H:=bE.kt _ _ h2 (fk.wf k.ck);refine wpIn_mono (FD dA bE c6 c _ _ _ h1 σ h w a r ht k (cH.left dE.eu) bd) ?_;rintro e cq aV ⟨bO,ms,τ,a6,q2,Da,dz,eM⟩;rw[al]at bO;subst bO;show Code.roundsIn (ei r) 0 P c (s9 B σ h H w a.defers aS) n cq aV;exact Vf (s9.trans k (cH.left dE.eu) eM q2 Da) n cq aV (aR c6 c bZ.T bZ.H aS h2 B τ a6 aV cq r ht (k.next eM) (cH.right eM.gO) dz);refine wpIn_mono (FD dA bE c6 c _ _ _ h1 σ h w a r ht k cH bd) ?_;rintro e cq aV q;have bO:=q.1;cases he:aS.cJ with
 | normal=>simp_all
 | exit id=>rw[he]at bO;subst bO;exact q
 | ret=>rw[he]at bO;subst bO;exact q
end
end Go.Ab
namespace Go.Ab
open Go
noncomputable def oZ(n:Nat):ar:=⟨Nat.rec (motive:=fun _=>Tr ay) .nil (fun k t=>t.set k none) n,n,0,[]⟩
noncomputable def Jb (P:Program):Bool:=jM (fun fn=>not (fn.name== "runtime.NumGoroutine")) P.funcs.toList&&P.follows .mixedOrders
theorem Vw{P:Program}(h:Jb P=true):c8 P:=by
 unfold Jb at h;rw[Bool.and_eq_true,j0,all_eq_true]at h;refine⟨fun f fn hf he=>?_,h.2⟩
 grind
theorem Vx:∀(n i:Nat),(oZ n).get i=none
 | 0,i=>rfl
 | n+1,i=>by
  cases h:(oZ (n+1)).get i with
  | none=>rfl
  | some b=>
   have h:((oZ n).t.set n none).get i=some b:=h;rcases Tr.CD _ _ _ _ _ h with⟨_,h1⟩|⟨_,h1⟩
   cases h1;have h2:(oZ n).get i=some b:=h1;rw[Vx n i]at h2;cases h2
abbrev np(w:World):hD:=⟨fun c=>w.heap[c]?,w.heap.size⟩
section
open Go.ChangeShapes Go.WideShapes Go.ChangeAt Go.RowKit
end
end Go.Ab
namespace Go.Ab
open Go
def Bb:Value->Bool
 | .bool _=>true
 | .int _ _=>true
 | .string _=>true
 | .nilFunc=>true
 | .nilIface=>true
 | _=>false
def zb:Value->Bool
 | .agg ao=>ao.toList.all Bb
 | v=>Bb v
def Vy:Value->Bool
 | .tuple vs=>vs.toList.all zb
 | v=>zb v
theorem bH.Bb{σ:cO}:∀ {ak aX:List Value},bH σ ak aX->ak.all Bb=true->aX=ak
 | [],aX,h,_=>h.qI
 | x::ak,aX,h,hf=>by rw[all_cons,Bool.and_eq_true]at hf;obtain⟨y,r,rfl,h1,h2⟩:=h.mP;rw[h2.Bb hf.2];have hf:=hf.1;cases x<;>first|(cases hf;done)|(cases h1;rfl)
theorem Vz{σ:cO}:∀ {ak:List Value},ak.all Ab.Bb=true->bH σ ak ak
 | [],_=>.nil
 | x::ak,hf=>by
  rw[all_cons,Bool.and_eq_true]at hf;have r:=Vz (σ:=σ) hf.2;have hf:=hf.1;cases x<;>first|(cases hf;done)|skip
  ·exact .bool _ r
  ·exact .int _ _ r
  ·exact .string _ r
  ·exact .nilFunc r
  ·exact .nilIface r
theorem bH.zb{σ:cO}:∀ {ak aX:List Value},bH σ ak aX->ak.all Ab.zb=true->aX=ak
 | [],aX,h,_=>h.qI
 | x::ak,aX,h,hf=>by
  rw[all_cons,Bool.and_eq_true]at hf;obtain⟨y,r,rfl,h1,h2⟩:=h.mP;rw[h2.zb hf.2];have hf:=hf.1;cases x<;>first|(cases hf;done)|skip
  case agg ao _=>
   obtain⟨bK,akv,e⟩:∃bK:Array Value,bH σ ao.toList bK.toList/\y=.agg bK:=by cases h1;simp_all
   rw[e,show bK=ao from Array.ext' (bH.Bb akv hf)]
  all_goals (cases h1;rfl)
theorem Ob{σ:cO}:∀ {ak:List Value},ak.all Ab.zb=true->bH σ ak ak
 | [],_=>.nil
 | x::ak,hf=>by
  rw[all_cons,Bool.and_eq_true]at hf;have r:=Ob (σ:=σ) hf.2;have hf:=hf.1;cases x<;>first|(cases hf;done)|skip
  case agg ao _=>exact .agg _ _ (Vz hf) r
  ·exact .bool _ r
  ·exact .int _ _ r
  ·exact .string _ r
  ·exact .nilFunc r
  ·exact .nilIface r
theorem akw{σ:cO}{x:Value}(hf:Ab.Vy x=true):ch σ x x:=by
 cases x<;>first|(cases hf;done)|skip
 case tuple ao=>exact .tuple _ _ (Ob hf) .nil
 all_goals exact Ob (by rw[all_cons,Bool.and_eq_true];exact⟨hf,rfl⟩)
class dX where
 kx:FuncId->List Value->ar->Option Value
 /-- aCX body, TH akx the oP (a function TH defers) -/
 oi:FuncId->Option Code
@[reducible] noncomputable def aCY (g:FuncId):dX:=⟨fun f args _=>cond (Nat.beq f g&&Nat.beq (fG args) 0) (some (.bool true)) none,fun _=>none⟩
noncomputable def rG(P:Program)(f:FuncId)(c:Code)(self:hz)(args:List Value)(H:ar):Option dY:=match P.funcs.toList[f]? with
 | some fn=>cond (Nat.ble (fG args) (fn.params.size+fn.nfree)) (u0 P fn.results.toList ((dn P true c).f self (hP args (fR (fn.ntmps-fG args) [undef])) H)) none
 | none=>none
noncomputable def Dc[dX](P:Program)(self:hz)(t:At):Option dY:=match t with
 | .call f args H=>match dX.kx f args H with
  | some v=>some ⟨.ret,[v],H⟩
  | none=>match dX.oi f with
   | some c=>rG P f c self args H
   | none=>step P self (.call f args H)
 | t=>step P self t
noncomputable def eJ[dX](P:Program)(n:Nat):hz:=Nat.rec (motive:=fun _=>hz) (fun _=>none) (fun _ a7 t=>Dc P a7 t) n
def xE[hD](P:Program)(f:FuncId)(args:List Value)(H:ar)(v:Value):Prop:=
 ∀(B:Nat) (σ:cO) (h:Nat->Option Obj) (w:World) (fN:Array Value),gS P B σ h H w->bH σ args fN.toList->
  (∃fn c,P.funcs[f]?=some fn/\fn.body=some c)/\CallsIn (ei none) 0 P f fN w (fun e aV=>∃aH,e=.returned aH/\ch σ v aH/\RowKit.Below w.heap.size w aV)
def Dd[hD][dX](P:Program)(f:FuncId)(c:Code):Prop:=
 ∀n,(∀m,m<=n->h3 P (eJ P m))->∀args H cJ v aa,rG P f c (eJ P n) args H=some ⟨cJ,[v],aa⟩->∀(B:Nat) (σ:cO) (h:Nat->Option Obj) (w:World) (fN:Array Value),gS P B σ h H w->gq σ H.next aa.next->bH σ args fN.toList->
  (∃fn c,P.funcs[f]?=some fn/\fn.body=some c)/\CallsIn (ei none) 0 P f fN w (fun e aV=>∃aH τ a6,e=.returned aH/\ch τ v aH/\fx B σ h H w τ a6 aa aV)
structure FE [hD] [dX] (P:Program):Prop where
 kx:∀f args H v,dX.kx f args H=some v->xE P f args H v
 oi:∀f c,dX.oi f=some c->Dd P f c
section
variable{P:Program}[hD][dX]
omit [hD] [dX] in
theorem lh.below{σ:cO}{B:Nat}{h:Nat->Option Obj}{w aV:World}(aw:lh σ B h w)(an:RowKit.Below w.heap.size w aV):lh σ B h aV:=by
 refine⟨fun id b aq=>?_,aw.own,aw.la⟩;have bC:=aw.fC id b aq;have ag:=fun c o s (aD:σ id=some (c,o,s))=>(bC.eF aD).2
 cases b with
 | cells x=>obtain⟨c,o,s,db,cW,ec,h1,h2,aB⟩:=bC;exact⟨c,o,s,db,cW,ec,h1,by rw[an.block c (ag _ _ _ h1)];exact h2,aB⟩
 | loop x=>obtain⟨c,o,s,L,h1,h2,aB⟩:=bC;exact⟨c,o,s,L,h1,by rw[an.block c (ag _ _ _ h1)];exact h2,aB⟩
 | nm=>obtain⟨c,o,s,h1,h2⟩:=bC;exact⟨c,o,s,h1,by rw[an.block c (ag _ _ _ h1)];exact h2⟩
theorem Oc{bg:hz}{f:FuncId}{c:Code}{args:List Value}{H:ar}{aS:dY}(U:rG P f c bg args H=some aS):
  ∃fn bZ v,P.funcs[f]?=some fn/\(dn P true c).f bg (args++List.replicate (fn.ntmps-args.length) undef) H=some bZ/\(∀id,bZ.cJ≠.exit id)/\yQ P fn.results.toList bZ.T bZ.H=some v/\aS=⟨.ret,[v],bZ.H⟩/\args.length<=fn.params.size+fn.nfree:=by
 unfold rG at U;split at U
 ·rename_i fn hf;have sk:P.funcs[f]?=some fn:=by simp_all
  cases lg:Nat.ble (fG args) (fn.params.size+fn.nfree)with
  | false=>simp_all
  | true=>
  rw[lg]at U;have U:u0 P fn.results.toList ((dn P true c).f bg (hP args (fR (fn.ntmps-fG args) [undef])) H)=some aS:=U;unfold u0 at U;split at U
  ·rename_i e T br aD;split at U
   ·cases U
   ·rename_i al;split at U
    ·simp_all[gE,iv,y8]
    grind
  grind
 grind
theorem aky(dA:c8 P)(bC:FE P){n:Nat}(hA:∀m,m<=n->h3 P (eJ P m)):h3 P (Dc P (eJ P n)):=by
 have bE:=hA n (Nat.le_refl _);have s:=vn dA bE;refine⟨?_,?_,fun l args H cJ v aa U=>s.round l args H cJ v aa U,?_⟩;intro t aS U hf;cases t with
 | loop c6 c T H=>exact s.kt (.loop c6 c T H) aS U hf
 | round l args H=>exact s.kt (.round l args H) aS U hf
 | call f args H=>have U:(match dX.kx f args H with|some v=>some ⟨.ret,[v],H⟩|none=>match dX.oi f with|some c=>rG P f c (eJ P n) args H|none=>step P (eJ P n) (.call f args H))=some aS:=U;split at U;cases U;exact gh.refl H;split at U;obtain⟨fn,bZ,v,_,aD,_,_,rfl,_⟩:=Oc U;show gh H bZ.H;exact lD bE true _ _ _ bZ hf aD;exact s.kt (.call f args H) aS U hf
 intro f args H cJ v aa U B σ h w fN k cH hv;have U:(match dX.kx f args H with|some v=>some ⟨.ret,[v],H⟩|none=>match dX.oi f with|some c=>rG P f c (eJ P n) args H|none=>step P (eJ P n) (.call f args H))=some ⟨cJ,[v],aa⟩:=U;split at U;rename_i v0 aq;cases U;obtain⟨h1,h2⟩:=bC.kx f args _ _ aq B σ h w fN k hv;refine⟨h1,CallsIn.mono h2 ?_⟩;rintro e aV ⟨aH,rfl,hJ,an⟩;refine⟨_,σ,h,rfl,hJ,⟨k.fD.below an,Nat.le_refl _,fun _ _=>rfl,fun _ _ h=>h,an.os,an.tape,an.output,an.size,fun c aD _=>an.block c aD,fun _ h _=>h⟩,k.sub,fun id b an=>by rwa [C1]at an,gh.refl H⟩;split at U;rename_i c aD;exact bC.oi f c aD n hA args H cJ v aa U B σ h w fN k cH hv;exact s.call f args H cJ v aa U B σ h w fN k cH hv;exact s.loop
theorem VA(dA:c8 P)(bC:FE P):∀n m,m<=n->h3 P (eJ P m)
 | 0,m,hm=>by
  obtain rfl:m=0:=by omega
  exact⟨fun _ _ h=>(by cases h),fun _ _ _ _ _ _ h=>(by cases h),fun _ _ _ _ _ _ h=>(by cases h),0,fun _ _ _ _ _ h=>(by cases h)⟩
 | n+1,m,hm=>by
  have a7:=VA dA bC n;by_cases h:m<=n;exact a7 m h;obtain rfl:m=n+1:=by omega
  exact aky dA bC a7
theorem akz(dA:c8 P)(bC:FE P)(n:Nat):h3 P (eJ P n):=VA dA bC n n (Nat.le_refl _)
end
section
variable[hD]
end
end Go.Ab
