/- texts of the nF, e5 behind the l0 -/
import Derived.DefersIn
import Derived.RecoverIn
import Derived.Calls
import Derived.OrdersIn
import Derived.Tactics
import Derived.Tactics2
import Derived.Test.YtifflnhooaophaaGreatDoorAbC
set_option linter.unusedVariables false
set_option linter.unusedSimpArgs false
set_option linter.unusedSectionVars false
open List Nat
namespace Go.Ab
open Go
def ln:Code->Bool
 | .skip=>true
 | .region _ _ _=>true
 | .seq a b=>ln a&&ln b
 | .cond _ a b=>ln a&&ln b
 | .ret=>true
 | _=>false
section
variable{P:Program}[hD]{B:Nat}{bg:hz}
def OU(B:Nat)(σ:cO)(h:Nat->Option Obj)(H:ar)(w:World)(ds:List Deferred)(aS:dY):Exit->Act->World->Prop:=
 fun e cq aV=>e=AZ aS.cJ/\cq.defers=ds/\∃ τ a6,bH τ aS.T cq.tmps.toList/\fx B σ h H w τ a6 aS.H aV
theorem Bo(dA:c8 P)(bE:h3 P bg)(c6:Bool):∀(c:Code),ln c=true->∀(T:List Value) (H:ar) (aS:dY),(dn P c6 c).f bg T H=some aS->
  ∀(σ:cO) (h:Nat->Option Obj) (w:World) (a:Act) (r:Option Nat),gS P B σ h H w->gq σ H.next aS.H.next->bH σ T a.tmps.toList->c.wpIn (ei r) 0 P (OU B σ h H w a.defers aS) a w:=by
 intro c;induction c with
 | skip=>intro _ T H aS U σ h w a r k _ bd;cases U;exact wpIn_skip ⟨rfl,rfl,σ,h,bd,fx.refl k⟩
 | ret=>intro _ T H aS U σ h w a r k _ bd;cases U;exact wpIn_ret ⟨rfl,rfl,σ,h,bd,fx.refl k⟩
 | region id bf d=>
  intro _ T H aS U σ h w a r k cH bd;cases d with
  | true=>exact Vb dA bE bf id r k cH bd U fun al τ a6 cq aV bO q2 dz=>⟨by rw[al];rfl,q2,τ,a6,bO,dz⟩
  | false=>refine wpIn_region ?_;have hm:=ud bE bf.toList _ _ _ _ k.ck U;rw[range_eq_range',<- Array.length_toList];refine Fu dA bE bf r bf.toList 0 (by simp) σ h T H w a aS k cH bd U ?_;intro τ a6 cq aV bO q2 dz;exact⟨by rw[hm.2];rfl,q2,τ,a6,bO,dz⟩
 | seq x y cm vl=>
  intro bS T H aS U σ h w a r k cH bd;have bS:(ln x&&ln y)=true:=bS;rw[Bool.and_eq_true]at bS;have U:mO ((dn P c6 x).f bg T H) (fun T H=>(dn P c6 y).f bg T H)=some aS:=U;obtain⟨bZ,h1,h2⟩:=so U;have fk:=lD bE c6 x _ _ _ k.ck h1;refine wpIn_seq ?_;rcases h2 with⟨al,h2⟩|⟨al,rfl⟩
  have dE:=lD bE c6 y _ _ _ (fk.wf k.ck) h2;refine wpIn_mono (cm bS.1 _ _ _ h1 σ h w a r k (cH.left dE.eu) bd) ?_;rintro e cq aV ⟨bO,q2,τ,a6,dz,eM⟩;rw[al]at bO;subst bO;show y.wpIn (ei r) 0 P (OU B σ h H w a.defers aS) cq aV;refine wpIn_mono (vl bS.2 _ _ _ h2 τ a6 aV cq r (k.next eM) (cH.right eM.gO) dz) ?_;rintro e c2 e0 ⟨b7,ca,iV,pJ,g3,g4⟩;exact⟨b7,ca.trans q2,iV,pJ,g3,eM.trans k (cH.left dE.eu) g4⟩;refine wpIn_mono (cm bS.1 _ _ _ h1 σ h w a r k cH bd) ?_;rintro e cq aV q;have bO:=q.1;cases he:aS.cJ with
  | normal=>simp_all
  | exit id=>rw[he]at bO;subst bO;exact q
  | ret=>rw[he]at bO;subst bO;exact q
 | cond c x y cm vl=>
  intro bS T H aS U σ h w a r k cH bd;have bS:(ln x&&ln y)=true:=bS;rw[Bool.and_eq_true]at bS;have U:oQ bg ((dT c).g T) (dn P c6 x) (dn P c6 y) T H=some aS:=U;unfold oQ at U
  grind[wpIn_cond,I1]
 | _=>intro bS;cases bS
theorem OV(dA:c8 P)(bE:h3 P bg)(bf:Array Oper)(all:List Oper)(r:Option Nat)(ui:List Oper){Q:Exit->Act->World->Prop}:∀(l:List Oper) (i:Nat),bf.toList.drop i=l++ui->(∀o∈l,o.guard=none)->
  ∀(σ:cO) (h:Nat->Option Obj) (T:List Value) (H:ar) (w:World) (a:Act) (aS:dY),gS P B σ h H w->gq σ H.next aS.H.next->bH σ T a.tmps.toList->jd P bg all l T H=some aS->
  (∀ τ a6 cq aV,bH τ aS.T cq.tmps.toList->cq.defers=a.defers->fx B σ h H w τ a6 aS.H aV->wpOpsIn (ei r) 0 P bf Q (List.range' (i+l.length) ui.length) cq aV)->wpOpsIn (ei r) 0 P bf Q (List.range' i (l.length+ui.length)) a w
 | [],i,aE,hg,σ,h,T,H,w,a,aS,k,cH,bd,U,cf=>by
  cases U;have:=cf σ h a w bd rfl (fx.refl k)
  simp_all
 | o::l,i,aE,hg,σ,h,T,H,w,a,aS,k,cH,bd,U,cf=>by
  have bC:bf[i]?=some o:=by
   have:(bf.toList.drop i)[0]?=some o:=by grind
   grind
  have vh:bf.toList.drop (i+1)=l++ui:=by
   have:(bf.toList.drop i).drop 1=l++ui:=by grind
   grind[drop_drop]
  have gg:gw P bg o ((ia all o.guard).f T) T H (jd P bg all l)=some aS:=U;rw[hg o (.head _)]at gg;have gg:gw P bg o true T H (jd P bg all l)=some aS:=gg;unfold gw at gg;have e:(o::l).length+ui.length=(l.length+ui.length)+1:=by grind
  rw[e,List.range'_succ];simp only[wpOpsIn,bC];have aM:Region.wanted o (yielded bf a.tmps)=true:=by simp_all[Region.wanted]
  rw[if_pos aM];simp only at gg;split at gg;rename_i v br aw;have fk:=C4 bE k.ck aw;have dE:=ud bE all l _ br aS (fk.wf k.ck) gg;refine II dA bE o k (cH.left dE.1.eu) bd aw ?_;intro aH τ a6 aV hv st;obtain⟨cC,bw⟩:=wg (σ:=τ) (bd.mono st.gO.mono) o.dst hv;refine OV dA bE bf all r ui l (i+1) vh (fun x al=>hg x (mem_cons_of_mem _ al)) τ a6 _ br aV _ aS (k.next st) (cH.right st.gO) cC gg ?_;intro iV h2 cq e0 bO q2 dz;rw[show i+1+l.length=i+(o::l).length by omega];exact cf iV h2 cq e0 bO (q2.trans bw) (st.trans k (cH.left dE.1.eu) dz)
  grind
theorem F2(T:List Value)(d:Option Tmp)(v:Value):(hZ T d v).length=T.length:=by
 cases d with
 | none=>rfl
 | some d=>show(gJ T d v).length=_;simp_all[oS]
theorem F3(all:List Oper):∀(l:List Oper) (T:List Value) (H:ar) (aS:dY),jd P bg all l T H=some aS->aS.T.length=T.length
 | [],T,H,aS,U=>by cases U;rfl
 | o::l,T,H,aS,U=>by have U:gw P bg o ((ia all o.guard).f T) T H (jd P bg all l)=some aS:=U;unfold gw at U;split at U;split at U;rw[F3 all l _ _ _ U,F2];cases U;rw[F3 all l _ _ _ U,F2]
theorem zm{T:List Value}{d:Option Tmp}{v:Value}{i:Nat}(h:d≠some i):b4 (hZ T d v) i=b4 T i:=by
 cases d with
 | none=>rfl
 | some d=>
  show b4 (gJ T d v) i=b4 T i
  simp_all[oS,oR]
theorem JQ(i:Nat)(all:List Oper):∀(l:List (Oper×mN)) (T:List Value) (H:ar) (dq:List lQ) (aS:dY),(∀o∈l,o.1.dst≠some i)->p3 P bg all l T H dq=some aS->b4 aS.T i=b4 T i
 | [],T,H,dq,aS,_,U=>by cases U;rfl
 | o::l,T,H,dq,aS,aO,U=>by
  have U:rz P bg o.1 o.2 ((ia all o.1.guard).f T) T H dq (p3 P bg all l)=some aS:=U;have h1:=aO o (.head _);have h2:∀x∈l,x.1.dst≠some i:=fun x al=>aO x (mem_cons_of_mem _ al)
  unfold rz at U;split at U;split at U;split at U;rw[JQ i all l _ _ _ _ h2 U,zm h1];cases U;cases U;rw[JQ i all l _ _ _ _ h2 U,zm h1]
theorem OW{σ:cO}{args:List Value}{fN:Array Value}(hv:bH σ args fN.toList)(m:Nat):bH σ (args++List.replicate (m-args.length) undef) (fN++Array.replicate (m-fN.size) undef).toList:=by
 have hlen:args.length=fN.size:=by have:=hv.length;omega
 rw[Array.toList_append,Array.toList_replicate,hlen];refine hv.append ?_;generalize m-fN.size=n;induction n with
 | zero=>exact .nil
 | succ n a7=>exact ch.undef.cons a7
theorem OX{σ:cO}{T:List Value}{a:Act}(bd:bH σ T a.tmps.toList)(i:Nat):ch σ (b4 T i) (a.eval (.tmp i)):=by
 have h2:=bd.getD i;have aB:a.tmps.toList.getD i undef=a.tmps.getD i undef:=by simp_all
 rw[aB,<- oR]at h2;exact h2
theorem WM{bf:Array Oper}{i:Nat}{D:Oper}{cc:Call}{aL:Operand}{g:FuncId}{first cap:Array Value}{a:Act}{w:World}{Q:Exit->Act->World->Prop}(bC:bf[i]?=some D)(hg:D.guard=none)(lf:D.op=.defer cc)(al7:D.dst=none)
  (aD:cc.callee=.value aL) (hf:a.eval aL=.func (.func g) first cap) (cf:Q .normal {a with defers:=⟨.fn (.func g) cap,first++cc.args.map a.eval⟩::a.defers} w):wpOpsIn (ei none) 0 P bf Q (List.range' i 1) a w:=by
 show wpOpsIn (ei none) 0 P bf Q [i] a w;simp only[wpOpsIn,bC];have aM:Region.wanted D (yielded bf a.tmps)=true:=by simp_all[Region.wanted]
 rw[if_pos aM];refine⟨fun _ _=>trivial,?_⟩;have e:(D.semAt (ei none).round a.eval).run P w=.ok (.defer ⟨.fn (.func g) cap,first++cc.args.map a.eval⟩) w:=by simp_all[Oper.semAt_none,execOp,resolve,Deferred.ofValue]
 rw[e,Oper.uponIn_defer,al7];exact cf
theorem Bp{x y:HZ}{T:List Value}{H:ar}{aS:dY}(U:mO (x.f bg T H) (fun T H=>y.f bg T H)=some aS)(aR:∀o,x.f bg T H=some o->o.cJ=.normal):∃bZ,x.f bg T H=some bZ/\bZ.cJ=.normal/\y.f bg bZ.T bZ.H=some aS:=by grind[so]
end
section
variable{P:Program}[hD][dX]
theorem WN{σ:cO}{T:List Value}{a:Act}(bd:bH σ T a.tmps.toList):∀(l:List Operand),(∀x∈l,∃i,x=.tmp i)->bH σ (j8 l T) (l.map a.eval)
 | [],_=>.nil
 | x::l,h=>by obtain⟨i,rfl⟩:=h x (.head _);exact(OX bd i).cons (WN bd l fun y a8=>h y (mem_cons_of_mem _ a8))
theorem WO{T dW:List Value}:∀(l:List Operand),(∀x∈l,∃i,x=.tmp i/\b4 dW i=b4 T i)->j8 l dW=j8 l T
 | [],_=>rfl
 | x::l,h=>by obtain⟨i,rfl,aq⟩:=h x (.head _);show b4 dW i::j8 l dW=b4 T i::j8 l T;rw[aq,WO l fun y a8=>h y (mem_cons_of_mem _ a8)]
theorem OY(dA:c8 P){B:Nat}{bg:hz}(bE:h3 P bg){A hi WQ:Code}{σ:cO}{h:Nat->Option Obj}{T:List Value}{H:ar}{w:World}{a:Act}{aS:dY}{Q:Exit->Act->World->Prop}(bS:ln A=true)(aD:(dn P true (.seq A hi)).f bg T H=some aS)
  (k:gS P B σ h H w) (cH:gq σ H.next aS.H.next) (bd:bH σ T a.tmps.toList) (aO:a.defers=[])
  (al8:aS.cJ≠.normal->∀ τ a6 cq aV,bH τ aS.T cq.tmps.toList->cq.defers=[]->fx B σ h H w τ a6 aS.H aV->Q (AZ aS.cJ) cq aV)
  (aC9:(∃id,aS.cJ=.exit id)->False)
  (next:∀bZ:dY,(dn P true hi).f bg bZ.T bZ.H=some aS->gh H bZ.H->gh bZ.H aS.H->∀ τ a6 cq aV,bH τ bZ.T cq.tmps.toList->cq.defers=[]->fx B σ h H w τ a6 bZ.H aV->WQ.wpIn (ei none) 0 P Q cq aV):
  (Code.seq A WQ).wpIn (ei none) 0 P Q a w:=by
 have U:mO ((dn P true A).f bg T H) (fun T H=>(dn P true hi).f bg T H)=some aS:=aD;obtain⟨bZ,h1,h2⟩:=so U;have fk:=lD bE true A _ _ _ k.ck h1;refine wpIn_seq ?_;rcases h2 with⟨al,h2⟩|⟨al,rfl⟩
 have dE:=lD bE true hi _ _ _ (fk.wf k.ck) h2;refine wpIn_mono (Bo dA bE true A bS _ _ _ h1 σ h w a none k (cH.left dE.eu) bd) ?_;rintro e cq aV ⟨bO,q2,τ,a6,dz,eM⟩;rw[al]at bO;subst bO;exact next bZ h2 fk dE τ a6 cq aV dz (q2.trans aO) eM
 refine wpIn_mono (Bo dA bE true A bS _ _ _ h1 σ h w a none k cH bd) ?_;rintro e cq aV ⟨bO,q2,τ,a6,dz,eM⟩;have:=al8 al τ a6 cq aV dz (q2.trans aO) eM;subst bO;cases he:aS.cJ with
 | normal=>simp_all
 | exit id=>simp_all
 | ret=>rw[he]at this;exact this
theorem al9(dA:c8 P){f:FuncId}{fn:Func}{F4 F5 F6:Code}{i4 kA DE:Nat}{ops4 sz:Array Oper}{pK:List Oper}{g:FuncId}{D C:Oper}{cc:Call}{gn:Func}{gc:Code}
  (hf:P.funcs[f]?=some fn) (an:fn.body=some (.seq F4 (.seq F5 (.seq F6 (.seq (.region i4 ops4 false) (.seq (.region kA sz true) .ret))))))
  (fS:ln F4=true) (cC:ln F5=true) (bw:ln F6=true) (bk:ops4.toList=pK++[D]) (ama:∀o∈pK,o.guard=none)
  (lf:D.op=.defer cc) (AV:cc.callee=.value (.func g)) (OZ:D.guard=none) (O0:D.dst=none)
  (j1:C.op=.call cc) (amb:C.guard=none) (amc:C.dst=none)
  (A3:∀x∈cc.args.toList,∃i,x=.tmp i/\∀o∈sd P sz.toList,o.1.dst≠some i)
  (hg:P.funcs[g]?=some gn) (O1:gn.body=some gc) (amd:ln gc=true) (ame:∀args H,dX.kx g args H=none) (amf:dX.oi g=none):
  Dd P f (.seq F4 (.seq F5 (.seq F6 (.seq (.region i4 pK.toArray false) (.seq (.region kA sz true) (.seq (.region DE #[C] false) .ret)))))):=by
 intro n hA args H cJ v aa U B σ h w fN k cH hv;have bE:=hA n (Nat.le_refl _);obtain⟨amg,bZ,dS,sk,aD,al,rC,bC,_⟩:=Oc U;rw[hf]at sk;cases sk;cases bC;refine⟨⟨fn,_,hf,an⟩,callsIn_of_wp_defers hf an trivial ?_⟩;have bd:=OW hv fn.ntmps;generalize args++List.replicate (fn.ntmps-args.length) undef=lC at*;have O2:∀ {mn:cO} {a6:Nat->Option Obj} {fO:ar} {l4:World},gS P B mn a6 fO l4->fx B σ h H w mn a6 fO l4->gq σ H.next fO.next->bZ.cJ≠.normal->∀ τ h2 cq aV,bH τ bZ.T cq.tmps.toList->cq.defers=[]->fx B mn a6 fO l4 τ h2 bZ.H aV->
   bodyPostDIn (ei none) 0 P fn (fun e aV=>∃aH τ a6,e=.returned aH/\ch τ v aH/\fx B σ h H w τ a6 bZ.H aV) (AZ bZ.cJ) cq aV:=by
  intro mn a6 fO l4 ig tZ pD da τ h2 cq aV dz q2 eM;have ep:=ig.next eM;have mq:LeavesIn (ei none) 0 P fn cq.tmps (fun e aV=>∃aH τ a6,e=.returned aH/\ch τ v aH/\fx B σ h H w τ a6 bZ.H aV) cq.defers .returning aV:=by rw[q2];obtain⟨aH,om,ie⟩:=I9 ep dz rC;exact⟨aH,om,aH,τ,h2,rfl,ie,tZ.trans k pD eM⟩
  cases he:bZ.cJ with
  | normal=>simp_all
  | exit id=>simp_all
  | ret=>exact mq
 refine OY dA bE fS aD k cH bd rfl (O2 k (fx.refl k) (fun i a b=>absurd b (Nat.not_lt.2 a))) (fun⟨id,he⟩=>al id he) ?_;clear aD bd;intro kS aD F7 amh ami aN a0 l4 bd amj tZ;have ig:=k.next tZ;have pD:gq σ H.next kS.H.next:=cH.left amh.eu;have e2:=cH.right tZ.gO;refine OY dA bE cC aD ig e2 bd amj (O2 ig tZ pD) (fun⟨id,he⟩=>al id he) ?_;clear aD bd;intro gU aD JR WR aDa h1 c1 dH bd qL di;have ep:=ig.next di;have gM:gq ami kS.H.next gU.H.next:=e2.left WR.eu;have r1:=e2.right di.gO;have aW:=tZ.trans k pD di;have b7:gq σ H.next gU.H.next:=cH.left WR.eu;refine OY dA bE bw aD ep r1 bd qL (O2 ep aW b7) (fun⟨id,he⟩=>al id he) ?_;clear aD bd;intro dr aD dE amk WS h2 c2 e0 bd pq cP;have hl:=ep.next cP;have r2:=r1.right cP.gO;have dJ:=aW.trans k b7 cP;have ca:gq σ H.next dr.H.next:=cH.left amk.eu;obtain⟨hn,aB,aDb,aD⟩:=Bp (x:=dn P true (.region i4 pK.toArray false)) (y:=dn P true (.seq (.region kA sz true) (.seq (.region DE #[C] false) .ret))) aD (fun o bC=>(ud bE _ _ dr.T dr.H o hl.ck bC).2);have aml:jd P (eJ P n) pK pK dr.T dr.H=some hn:=by have JS:jd P (eJ P n) pK.toArray.toList pK.toArray.toList dr.T dr.H=some hn:=aB;omega
 have tX:=lD bE true _ _ _ _ hl.ck aB;have WT:=lD bE true _ _ _ _ (tX.wf hl.ck) aD;refine wpIn_seq ?_;refine wpIn_region ?_;rw[range_eq_range'];have fj:ops4.size=pK.length+[D].length:=by grind[length_append]
 rw[fj];have mU:gq WS dr.H.next hn.H.next:=r2.left WT.eu;refine OV dA bE ops4 pK none [D] pK 0 (by grind) ama WS h2 dr.T dr.H e0 c2 hn hl mU bd aml ?_;intro O3 JS a3 ka F8 amm sq;have oe:=hl.next sq;have fe:=r2.right sq.gO;have t3:=dJ.trans k ca sq;have g3:gq σ H.next hn.H.next:=cH.left WT.eu;refine WM (i:=0+pK.length) (D:=D) ?_ OZ lf O0 AV (a:=a3) (g:=g) (first:=#[]) (cap:=#[]) rfl ?_
 ·have:ops4.toList[0+pK.length]?=some D:=by grind
  grind
 show(Code.seq (.region kA sz true) .ret).wpIn (ei none) 0 P _ _ ka;obtain⟨kB,cj,amn,aD⟩:=Bp (x:=dn P true (.region kA sz true)) (y:=dn P true (.seq (.region DE #[C] false) .ret)) aD (fun o bC=>by
  have bC:n5 P (eJ P n) sz.toList hn.T hn.H=some o:=bC;unfold n5 at bC;split at bC
  ·have:∀(l:List (Oper×mN)) (T:List Value) (H:ar) (dq:List lQ),p3 P (eJ P n) sz.toList l T H dq=some o->o.cJ=.normal:=by
    intro l;induction l with
    | nil=>intro T H dq h;cases h;rfl
    | cons x l a7=>
     intro T H dq h;have h:rz P (eJ P n) x.1 x.2 ((ia sz.toList x.1.guard).f T) T H dq (p3 P (eJ P n) sz.toList l)=some o:=h;unfold rz at h
     grind
   grind
  grind)
 have WU:∃dq,p3 P (eJ P n) sz.toList (sd P sz.toList) hn.T hn.H dq=some kB:=by
  have F9:n5 P (eJ P n) sz.toList hn.T hn.H=some kB:=cj
  grind[n5]
 obtain⟨aDc,WU⟩:=WU;have WV:=lD bE true _ _ _ _ (oe.ck) cj;have WW:=lD bE true _ _ _ _ (WV.wf oe.ck) aD;have pE:gq O3 hn.H.next kB.H.next:=fe.left WW.eu;obtain⟨zn,dh,aDd,aD⟩:=Bp (x:=dn P true (.region DE #[C] false)) (y:=dn P true .ret) aD (fun o bC=>(ud bE [C] [C] kB.T kB.H o (WV.wf oe.ck) bC).2);have amo:bZ=⟨.ret,zn.T,zn.H⟩:=by
  have:some (⟨.ret,zn.T,zn.H⟩:dY)=some bZ:=aD
  grind
 have zo:gw P (eJ P n) C ((ia [C] C.guard).f kB.T) kB.T kB.H (jd P (eJ P n) [C] [])=some zn:=dh;rw[amb]at zo;have zo:gw P (eJ P n) C true kB.T kB.H (jd P (eJ P n) [C] [])=some zn:=zo;unfold gw at zo;simp only at zo;split at zo
 case h_2=>cases zo
 case h_1 xW xX DF=>
 have jm:zn=⟨.normal,kB.T,xX⟩:=by have:some (⟨.normal,hZ kB.T C.dst xW,xX⟩:dY)=some zn:=zo;rw[amc]at this;cases this;rfl
 subst jm;subst amo;have wm:∃cJ,eJ P n (.call g (j8 cc.args.toList kB.T) kB.H)=some ⟨cJ,[xW],xX⟩:=by
  unfold iK at DF;split at DF
  ·rw[j1]at DF;unfold xe at DF;simp only[AV]at DF;obtain⟨Fg,cJ,ht,xQ⟩:=Ft DF;have O4:some (vW.fn g (hP [] (hP (j8 cc.args.toList kB.T) [])))=some Fg:=ht;cases O4;refine⟨cJ,?_⟩;have xQ:eJ P n (.call g (hP [] (hP (j8 cc.args.toList kB.T) [])) kB.H)=some ⟨cJ,[xW],xX⟩:=xQ
   grind[iv]
  grind
 obtain⟨amp,wm⟩:=wm;cases n with
 | zero=>cases wm
 | succ m=>
 have wm:(match dX.kx g (j8 cc.args.toList kB.T) kB.H with|some v=>some (⟨.ret,[v],kB.H⟩:dY)|none=>match dX.oi g with|some c=>rG P g c (eJ P m) (j8 cc.args.toList kB.T) kB.H|none=>(tP P g).f (eJ P m) (j8 cc.args.toList kB.T) kB.H)=some ⟨amp,[xW],xX⟩:=wm;rw[ame,amf]at wm;simp only at wm;obtain⟨aDe,aDf,WX,aDg,wC,WY,amq,aDh,amr,zp⟩:=NZ wm;rw[hg]at wC;cases wC;rw[O1]at WY;cases WY;cases zp;have ams:=hA m (le_succ m);have ld:j8 cc.args.toList kB.T=j8 cc.args.toList hn.T:=WO _ fun x al=>by grind[JQ]
 have vy:bH O3 (j8 cc.args.toList hn.T) (cc.args.map a3.eval).toList:=by grind[Array.toList_map,WN]
 refine wpIn_seq ?_;refine wpIn_mono (Bo dA bE true (.region kA sz true) rfl _ _ _ cj O3 JS ka {a3 with defers:=_::a3.defers} none oe pE F8) ?_;rintro e a5 JT ⟨bO,q2,O5,F9,dz,eM⟩;rw[amn]at bO;subst bO;refine wpIn_ret ?_;have O6:=oe.next eM;have t5:=t3.trans k g3 eM;have g5:gq σ H.next kB.H.next:=cH.left WW.eu;have O7:=fe.right eM.gO;show LeavesIn (ei none) 0 P fn a5.tmps _ a5.defers .returning JT;rw[q2];show LeavesIn (ei none) 0 P fn a5.tmps _ (_::a3.defers) .returning JT;rw[amm,pq];refine leavesIn_cons (by simp) (fun h=>by cases h) (f:=g) (args:=(#[]++cc.args.map a3.eval)++#[]) ?_ (fun _ _=>trivial) ?_
 ·exact IA dA hg O1 _ _
 have amt:bH O5 (j8 cc.args.toList kB.T) ((#[]++cc.args.map a3.eval)++#[]).toList:=by
  rw[ld];have:=vy.mono eM.gO.mono
  grind
 have amu:=OW amt gn.ntmps;refine(callsDIn_of_wp (R:=fun e aV=>∃v0 τ a6,e=.returned v0/\fx B O5 F9 kB.H JT τ a6 WX.H aV) hg O1 trivial ?_).mono ?_
 ·refine wpIn_mono (Bo dA ams true gc amd _ _ _ amq O5 F9 JT ⟨_,[]⟩ none O6 O7 amu) ?_;rintro e kC amv ⟨JU,WZ,JV,JW,amw,O8⟩;have O9:=O6.next O8;obtain⟨aH,om,ie⟩:=I9 O9 amw amr;cases he:WX.cJ with
  | exit id=>simp_all
  | normal=>rw[he]at JU;subst JU;exact⟨WZ,aH,om,aH,JV,JW,rfl,O8⟩
  | ret=>rw[he]at JU;subst JU;exact⟨WZ,aH,om,aH,JV,JW,rfl,O8⟩
 ·rintro e od amv ⟨rfl,v0,JV,JW,rfl,Pa⟩;have O9:=O6.next Pa;obtain⟨aH,om,ie⟩:=I9 O9 (dz.mono Pa.gO.mono) rC;exact⟨aH,om,aH,JV,JW,rfl,ie,t5.trans k g5 Pa⟩
end
end Go.Ab
namespace Go.Ab
open Go
def amx:Code->Code
 | .seq F4 (.seq F5 (.seq F6 (.seq (.region i4 ops4 false) (.seq O7 .ret))))=>
  match ops4.toList.reverse with
  | D::l=>match D.op with
   | .defer cc=>.seq F4 (.seq F5 (.seq F6 (.seq (.region i4 l.reverse.toArray false) (.seq O7 (.seq (.region i4 #[{D with op:=.call cc,dst:=none}] false) .ret)))))
   | _=>.skip
  | []=>.skip
 | _=>.skip
def xY(o:Oper)(x:Tmp)(t a:TypeId)(k:Tmp)(lj jZ:Code):Code:=
 .seq (.region 0 #[{o with dst:=some k,op:=.typeAssert (.tmp x) t a true,guard:=none},{o with dst:=some (k+1),op:=.extract (.tmp k) 1,guard:=none}] false)
  (.cond (.tmp (k+1)) (.seq (.region 0 #[{o with dst:=some k,op:=.assign (.const (.tuple #[])),guard:=none},{o with dst:=some (k+1),op:=.assign (.const (.tuple #[])),guard:=none}] false) lj) jZ)
def amy(t a3 lW:TypeId)(k:Tmp):Code->Code
 | .seq e2 (.seq (.region i1 tg d1) (.seq (.seq r2 (.cond eP amz .skip)) (.seq amA (.seq (.seq amB (.seq amC (.cond ij ji .skip))) amD))))=>
  match tg.toList with
  | mk::_=>.seq e2 (.seq (.region i1 #[mk] d1) (.seq (.seq r2 (.cond eP (xY mk 1 t a3 k amz ji) .skip)) (.seq amA (xY mk 1 t lW k (.seq (.seq amB (.seq amC (.cond ij ji .skip))) amD) ji))))
  | []=>.skip
 | _=>.skip
def amE(t a:TypeId)(k:Tmp):Code->Code
 | .seq e2 (.seq (.region i1 tg d1) (.seq uj (.seq A (.seq (.seq amF (.cond c R .skip)) amG))))=>
  match tg.toList with
  | mk::_=>.seq e2 (.seq (.region i1 #[mk] d1) (.seq uj (xY mk 1 t a k (.seq A (.seq (.seq amF (.cond c R .skip)) amG)) R)))
  | []=>.skip
 | _=>.skip
def xZ(P:Program)(f:FuncId)(T:Code->Code):Code:=match P.funcs.toList[f]? with
 | some fn=>match fn.body with
  | some c=>T c
  | none=>.skip
 | none=>.skip
end Go.Ab
namespace Go.Ab
open Go
theorem Xa{a:Act}{i j:Tmp}{v:Value}(h:i≠j):(a.put (some i) v).eval (.tmp j)=a.eval (.tmp j):=by simp_all[Act.put,Act.eval]
theorem DG{a:Act}{i:Tmp}{v:Value}(h:i<a.tmps.size):(a.put (some i) v).eval (.tmp i)=v:=by simp_all[Act.put,Act.eval]
theorem Ga{a:Act}{d:Option Tmp}{v:Value}:(a.put d v).tmps.size=a.tmps.size:=by cases d<;>simp[Act.put]
theorem JX{a:Act}{d:Option Tmp}{v:Value}:(a.put d v).defers=a.defers:=by cases d<;>rfl
theorem Xb(w:World)(o:Go.Obj):RowKit.Below w.heap.size w (w.alloc o):=
 ⟨rfl,rfl,rfl,by simp_all,fun k ag=>by show(w.heap.push o)[k]?=_;grind⟩
theorem amH{P:Program}{e:TypeId}{w:World}{s d:Option TypeId}{a:TypeId}{m:String}(h:P.underlying P.rt.typeAssertionError=some (.pointer e)):
  ∃eK o,(runtimePanic (α:=Value) (.typeAssertion s d a m)).run P w=.halt (.panic (.iface P.rt.typeAssertionError eK)) (w.alloc o):=by
 refine⟨.pointer (some ⟨w.heap.size,0,none⟩),?_⟩;simp only[runtimePanic,Sem.run_bind,run_program,elemOf,run_underlying h,Result.andThen_ok,Sem.run_pure,newVar,newRow,run_newObj_alloc];exact⟨_,rfl⟩
theorem amI{P:Program}{e t a:TypeId}{w:World}{x:Value}{iL:TypeDesc}(h:P.underlying P.rt.typeAssertionError=some (.pointer e))(bp:P.underlying a=some iL)(aR:∀ms,iL≠.interface ms)
  (al:x=.nilIface\/∃u v,x=.iface u v/\u≠a):∃eK o,(Instr.typeAssert x t a false).run P w=.halt (.panic (.iface P.rt.typeAssertionError eK)) (w.alloc o):=by
 have hf:∀s d m,∃eK o,(runtimePanic (α:=Value) (.typeAssertion s d a m)).run P w=.halt (.panic (.iface P.rt.typeAssertionError eK)) (w.alloc o):=fun s d m=>amH h
 rcases al with rfl|⟨u,v,rfl,bc⟩
 simp_all[Instr.typeAssert,run_underlying]
 simp_all[Instr.typeAssert,run_underlying]
theorem Xc{a b:Act}{d:Option Tmp}{v:Value}{t:Tmp}(aw:a.tmps.size=b.tmps.size)(h:a.eval (.tmp t)=b.eval (.tmp t)):(a.put d v).eval (.tmp t)=(b.put d v).eval (.tmp t):=by
 cases d with
 | none=>exact h
 | some i=>grind[DG,Act.put,Act.eval,Xa]
theorem amJ{P:Program}{bf:Array Oper}{Pb:Tmp->Bool}{Q:Exit->List Deferred->World->Prop}
  (UD:∀(i:Nat) (o:Oper),bf[i]?=some o->o.guard=none/\(∀ao b,o.op≠.select ao b)/\∀x∈o.op.operands,∀t,x=.tmp t->Pb t=true):
  ∀(l:List Nat) (a b:Act) (w:World),(∀t,Pb t=true->a.eval (.tmp t)=b.eval (.tmp t))->a.tmps.size=b.tmps.size->a.defers=b.defers->
   wpOpsIn (ei none) 0 P bf (fun e a w=>Q e a.defers w) l a w->wpOpsIn (ei none) 0 P bf (fun e a w=>Q e a.defers w) l b w:=by
 intro l;induction l with
 | nil=>intro a b w _ _ aO h;show Q _ b.defers w;rw[<- aO];exact h
 | cons i l a7=>
  intro a b w ag aw aO h;unfold wpOpsIn at h⊢;cases bC:bf[i]? with
  | none=>grind
  | some o=>
   simp only[bC]at h⊢;obtain⟨hg,amK,jo⟩:=UD i o bC;have aM:∀c:Act,Region.wanted o (yielded bf c.tmps)=true:=fun c=>by simp_all[Region.wanted]
   rw[if_pos (aM _)]at h⊢;refine⟨fun _ _=>trivial,?_⟩;have h2:=h.2;have e:(o.semAt (ei none).round b.eval)=(o.semAt (ei none).round a.eval):=by
    show o.semAt none b.eval=o.semAt none a.eval;rw[Oper.semAt_none,Oper.semAt_none];refine execOp_congr o amK fun x al=>?_
    cases x with
    | tmp t=>grind
    | _=>rfl
   rw[e];have aR:∀(d:Option Tmp) (v:Value) (aV:World),wpOpsIn (ei none) 0 P bf (fun e a w=>Q e a.defers w) l (a.put d v) aV->wpOpsIn (ei none) 0 P bf (fun e a w=>Q e a.defers w) l (b.put d v) aV:=fun d v aV hh=>a7 _ _ aV (fun t ht=>Xc aw (ag t ht)) (by simp_all[Ga]) (by simp_all[JX]) hh
   generalize (o.semAt (ei none).round a.eval).run P w=r at h2;cases r with
   | ok x aV=>
    cases x<;>simp only[Oper.uponIn]at h2⊢ <;>
     first
      | exact aR _ _ _ h2
      | exact⟨h2.1,CallsIn.mono h2.2 (fun e amL he=>by grind)⟩
      | exact⟨h2.1,RowsIn.mono h2.2 (fun _ _ he=>aR _ _ _ he)⟩
      | exact⟨h2.1,RoundIn.mono h2.2 (fun e amL he=>by grind)⟩
      |(rename_i d;exact a7 ({a with defers:=d::a.defers}.put o.dst undef) ({b with defers:=d::b.defers}.put o.dst undef) aV (fun t ht=>Xc (a:={a with defers:=d::a.defers}) (b:={b with defers:=d::b.defers}) aw (ag t ht)) (by simp_all[Ga]) (by simp_all[JX]) h2)
      | exact h2
   | halt x aV=>cases x<;>simp only[Oper.uponIn]at h2⊢ <;> first|exact h2|simp_all
end Go.Ab
namespace Go.Ab
open Go
section
variable{P:Program}[hD]{B:Nat}{bg:hz}
noncomputable def amM(P:Program)(i:Tmp)(bf:Array Oper):Bool->Bool
 | true=>(sd P bf.toList).any fun o=>o.1.dst==some i
 | false=>bf.toList.any fun o=>o.dst==some i
noncomputable def qh(P:Program)(i:Tmp):Code->Bool
 | .region _ bf d=>amM P i bf d
 | .seq a b=>qh P i a||qh P i b
 | .cond _ a b=>qh P i a||qh P i b
 | _=>false
theorem Pc(i:Nat)(all:List Oper):∀(l:List Oper) (T:List Value) (H:ar) (aS:dY),(∀o∈l,o.dst≠some i)->jd P bg all l T H=some aS->b4 aS.T i=b4 T i
 | [],T,H,aS,_,U=>by cases U;rfl
 | o::l,T,H,aS,aO,U=>by
  have U:gw P bg o ((ia all o.guard).f T) T H (jd P bg all l)=some aS:=U;have h1:=aO o (.head _);have h2:∀x∈l,x.dst≠some i:=fun x al=>aO x (mem_cons_of_mem _ al)
  unfold gw at U;split at U;split at U;rw[Pc i all l _ _ _ h2 U,zm h1];cases U;rw[Pc i all l _ _ _ h2 U,zm h1]
theorem Pd(all:List Oper):∀(l:List (Oper×mN)) (T:List Value) (H:ar) (dq:List lQ) (aS:dY),p3 P bg all l T H dq=some aS->aS.T.length=T.length/\aS.cJ=.normal
 | [],T,H,dq,aS,U=>by cases U;exact⟨rfl,rfl⟩
 | o::l,T,H,dq,aS,U=>by have U:rz P bg o.1 o.2 ((ia all o.1.guard).f T) T H dq (p3 P bg all l)=some aS:=U;unfold rz at U;split at U;split at U;split at U;obtain⟨h1,h2⟩:=Pd all l _ _ _ _ U;exact⟨by rw[h1,F2],h2⟩;cases U;cases U;obtain⟨h1,h2⟩:=Pd all l _ _ _ _ U;exact⟨by rw[h1,F2],h2⟩
theorem amN(c6:Bool):∀(c:Code),ln c=true->∀(T:List Value) (H:ar) (aS:dY),(dn P c6 c).f bg T H=some aS->aS.T.length=T.length:=by
 intro c;induction c with
 | skip=>intro _ T H aS U;cases U;rfl
 | ret=>intro _ T H aS U;cases U;rfl
 | region id bf d=>
  intro _ T H aS U;cases d with
  | true=>
   have U:n5 P bg bf.toList T H=some aS:=U
   grind[n5,Pd]
  | false=>exact F3 _ _ _ _ _ U
 | seq a b vo nq=>
  intro bS T H aS U;have bS:(ln a&&ln b)=true:=bS;rw[Bool.and_eq_true]at bS
  grind[dn,so]
 | cond c a b vo nq=>
  intro bS T H aS U;have bS:(ln a&&ln b)=true:=bS;rw[Bool.and_eq_true]at bS;have U:oQ bg ((dT c).g T) (dn P c6 a) (dn P c6 b) T H=some aS:=U;unfold oQ at U
  grind
 | _=>intro bS;cases bS
theorem Gb(c6:Bool)(i:Tmp):∀(c:Code),ln c=true->qh P i c=false->∀(T:List Value) (H:ar) (aS:dY),(dn P c6 c).f bg T H=some aS->b4 aS.T i=b4 T i:=by
 intro c;induction c with
 | skip=>intro _ _ T H aS U;cases U;rfl
 | ret=>intro _ _ T H aS U;cases U;rfl
 | region id bf d=>
  intro _ aO T H aS U;cases d with
  | true=>
   have U:n5 P bg bf.toList T H=some aS:=U;have aO:((sd P bf.toList).any fun o=>o.1.dst==some i)=false:=aO
   grind[n5,JQ]
  | false=>
   have aO:(bf.toList.any fun o=>o.dst==some i)=false:=aO;refine Pc i _ _ _ _ _ (fun o bC h=>?_) U
   grind
 | seq a b vo nq=>
  intro bS aO T H aS U;have bS:(ln a&&ln b)=true:=bS;have aO:(qh P i a||qh P i b)=false:=aO;rw[Bool.and_eq_true]at bS
  grind[dn,so]
 | cond c a b vo nq=>
  intro bS aO T H aS U;have bS:(ln a&&ln b)=true:=bS;have aO:(qh P i a||qh P i b)=false:=aO;rw[Bool.and_eq_true]at bS;rw[Bool.or_eq_false_iff]at aO;have U:oQ bg ((dT c).g T) (dn P c6 a) (dn P c6 b) T H=some aS:=U;unfold oQ at U
  grind
 | _=>intro bS;cases bS
theorem Pe{σ:cO}{h:Nat->Option Obj}{H:ar}{w aV:World}(k:gS P B σ h H w)(an:RowKit.Below w.heap.size w aV):fx B σ h H w σ h H aV:=
 ⟨⟨k.fD.below an,Nat.le_refl _,fun _ _=>rfl,fun _ _ h=>h,an.os,an.tape,an.output,an.size,fun c aD _=>an.block c aD,fun _ h _=>h⟩,k.sub,fun id b an=>by rwa [C1]at an,gh.refl H⟩
def x0(k:Nat)(T:List Value):Prop:=b4 T k=undef/\b4 T (k+1)=undef/\k+1<T.length
def amO(P:Program)(bg:hz)(s:Nat)(ji:Code)(B:Nat)(σ:cO)(h:Nat->Option Obj)(H:ar)(w:World)(ds:List Deferred)(T:List Value)(aS:dY):Exit->Act->World->Prop:=
 fun e cq aV=>∃u eK τ h1 br fw,e=.panic [{v:=.iface u eK,recovered:=false}]/\cq.defers=ds/\fx B σ h H w τ h1 br aV/\gh br aS.H/\b4 fw s=b4 T s/\fw.length=T.length/\(dn P true ji).f bg fw br=some aS
def Xd(P:Program)(bg:hz)(s:Nat)(ji:Code)(B:Nat)(σ:cO)(h:Nat->Option Obj)(H:ar)(w:World)(ds:List Deferred)(T:List Value)(aS:dY):Exit->Act->World->Prop:=
 fun e cq aV=>OU B σ h H w ds aS e cq aV\/amO P bg s ji B σ h H w ds T aS e cq aV
def mW(P:Program)(bg:hz)(s k:Nat)(ji hi C:Code):Prop:=
 ∀(T:List Value) (H:ar) (aS:dY),x0 k T->H.dB<=H.next->(dn P true hi).f bg T H=some aS->(aS.cJ=.normal->x0 k aS.T/\b4 aS.T s=b4 T s/\aS.T.length=T.length)/\
  ∀(B:Nat) (σ:cO) (h:Nat->Option Obj) (w:World) (a:Act),gS P B σ h H w->gq σ H.next aS.H.next->bH σ T a.tmps.toList->C.wpIn (ei none) 0 P (Xd P bg s ji B σ h H w a.defers T aS) a w
variable{s k:Nat}{ji:Code}
theorem mW.plain(dA:c8 P)(bE:h3 P bg){A:Code}(bS:ln A=true)(aw:qh P s A=false)(aN:qh P k A=false)(h1:qh P (k+1) A=false):mW P bg s k ji A A:=by intro T H aS er hf U;refine⟨fun _=>?_,fun B σ h w a ek cH bd=>wpIn_mono (Bo dA bE true A bS T H aS U σ h w a none ek cH bd) fun e cq aV h=>.inl h⟩;have aE:=amN true A bS T H aS U;exact⟨⟨(Gb true k A bS aN _ _ _ U).trans er.1,(Gb true (k+1) A bS h1 _ _ _ U).trans er.2.1,by rw[aE];exact er.2.2⟩,Gb true s A bS aw _ _ _ U,aE⟩
theorem mW.cond{c:Operand}{bK x eG y:Code}(al:mW P bg s k ji bK x)(a8:mW P bg s k ji eG y):mW P bg s k ji (.cond c bK eG) (.cond c x y):=by
 intro T H aS er hf U;have U:oQ bg ((dT c).g T) (dn P true bK) (dn P true eG) T H=some aS:=U;unfold oQ at U;split at U;rename_i t hv;cases t with
 | true=>
  obtain⟨h1,h2⟩:=al T H aS er hf U
  grind[wpIn_cond,I1]
 | false=>
  obtain⟨h1,h2⟩:=a8 T H aS er hf U
  grind[wpIn_cond,I1]
 grind
theorem mW.seq(bE:h3 P bg)(aQ:∀T H o,(dn P true ji).f bg T H=some o->o.cJ=.ret){hE A hi C:Code}(hA:mW P bg s k ji hE A)(j1:mW P bg s k ji hi C):mW P bg s k ji (.seq hE hi) (.seq A C):=by
 intro T H aS er hf U;have U:mO ((dn P true hE).f bg T H) (fun T H=>(dn P true hi).f bg T H)=some aS:=U;obtain⟨bZ,h1,h2⟩:=so U;have fk:=lD bE true hE _ _ _ hf h1;obtain⟨c1,c2⟩:=hA T H bZ er hf h1;rcases h2 with⟨al,h2⟩|⟨al,rfl⟩
 obtain⟨b7,ca,g3⟩:=c1 al;have CT:=fk.wf hf;have dE:=lD bE true hi _ _ _ CT h2;obtain⟨eP,dR⟩:=j1 bZ.T bZ.H aS b7 CT h2;refine⟨fun aR=>?_,fun B σ h w a ek cH bd=>?_⟩
 simp_all
 refine wpIn_seq (wpIn_mono (c2 B σ h w a ek (cH.left dE.eu) bd) ?_);rintro e cq aV (⟨bO,q2,τ,a6,dz,eM⟩|⟨u,eK,τ,zq,br,fw,cC,bw,eX,cM,fo,gH,dC⟩);rw[al]at bO;subst bO;refine wpIn_mono (dR B τ a6 aV cq (ek.next eM) (cH.right eM.gO) dz) ?_;rintro e amP e0 (⟨r1,r2,iV,pJ,fe,vm⟩|⟨u,eK,iV,zq,br,fw,cC,bw,eX,cM,fo,gH,dC⟩);exact .inl ⟨r1,r2.trans q2,iV,pJ,fe,eM.trans ek (cH.left dE.eu) vm⟩;exact .inr ⟨u,eK,iV,zq,br,fw,cC,bw.trans q2,eM.trans ek (cH.left dE.eu) eX,cM,fo.trans ca,gH.trans g3,dC⟩
 grind
 refine⟨fun aR=>absurd aR al,fun B σ h w a ek cH bd=>wpIn_seq (wpIn_mono (c2 B σ h w a ek cH bd) ?_)⟩;intro e cq aV cf;cases e with
 | normal=>
  rcases cf with⟨bO,_⟩|⟨_,_,_,_,_,_,cC,_⟩
  cases he:aS.cJ with
  | normal=>simp_all
  | exit id=>rw[he]at bO;cases bO
  | ret=>rw[he]at bO;cases bO
  grind
 | exit id=>exact cf
 | goto l=>exact cf
 | ret=>exact cf
 | panic xt=>exact cf
 | outgrown=>exact cf
def qi(P:Program)(bg:hz)(s k:Nat)(ji hi C:Code):Prop:=
 ∀(T:List Value) (H:ar) (aS:dY),x0 k T->H.dB<=H.next->(dn P true hi).f bg T H=some aS->
  ∀(B:Nat) (σ:cO) (h:Nat->Option Obj) (w:World) (a:Act),gS P B σ h H w->gq σ H.next aS.H.next->bH σ T a.tmps.toList->C.wpIn (ei none) 0 P (Xd P bg s ji B σ h H w a.defers T aS) a w
theorem mW.e{hi C:Code}(h:mW P bg s k ji hi C):qi P bg s k ji hi C:=fun T H aS er hf U=>(h T H aS er hf U).2
theorem qi.plain(dA:c8 P)(bE:h3 P bg){A:Code}(bS:ln A=true):qi P bg s k ji A A:=fun T H aS er hf U B σ h w a ek cH bd=>wpIn_mono (Bo dA bE true A bS T H aS U σ h w a none ek cH bd) fun e cq aV h=>.inl h
theorem qi.seq(bE:h3 P bg)(aQ:∀T H o,(dn P true ji).f bg T H=some o->o.cJ=.ret){hE A hi C:Code}(hA:mW P bg s k ji hE A)(j1:qi P bg s k ji hi C):qi P bg s k ji (.seq hE hi) (.seq A C):=by
 intro T H aS er hf U;have U:mO ((dn P true hE).f bg T H) (fun T H=>(dn P true hi).f bg T H)=some aS:=U;obtain⟨bZ,h1,h2⟩:=so U;have fk:=lD bE true hE _ _ _ hf h1;obtain⟨c1,c2⟩:=hA T H bZ er hf h1;rcases h2 with⟨al,h2⟩|⟨al,rfl⟩
 obtain⟨b7,ca,g3⟩:=c1 al;have CT:=fk.wf hf;have dE:=lD bE true hi _ _ _ CT h2;have dR:=j1 bZ.T bZ.H aS b7 CT h2;intro B σ h w a ek cH bd;refine wpIn_seq (wpIn_mono (c2 B σ h w a ek (cH.left dE.eu) bd) ?_);rintro e cq aV (⟨bO,q2,τ,a6,dz,eM⟩|⟨u,eK,τ,zq,br,fw,cC,bw,eX,cM,fo,gH,dC⟩);rw[al]at bO;subst bO;refine wpIn_mono (dR B τ a6 aV cq (ek.next eM) (cH.right eM.gO) dz) ?_;rintro e amP e0 (⟨r1,r2,iV,pJ,fe,vm⟩|⟨u,eK,iV,zq,br,fw,cC,bw,eX,cM,fo,gH,dC⟩);exact .inl ⟨r1,r2.trans q2,iV,pJ,fe,eM.trans ek (cH.left dE.eu) vm⟩;exact .inr ⟨u,eK,iV,zq,br,fw,cC,bw.trans q2,eM.trans ek (cH.left dE.eu) eX,cM,fo.trans ca,gH.trans g3,dC⟩
 grind
 intro B σ h w a ek cH bd;refine wpIn_seq (wpIn_mono (c2 B σ h w a ek cH bd) ?_);intro e cq aV cf;cases e with
 | normal=>
  rcases cf with⟨bO,_⟩|⟨_,_,_,_,_,_,cC,_⟩
  cases he:aS.cJ with
  | normal=>simp_all
  | exit id=>rw[he]at bO;cases bO
  | ret=>rw[he]at bO;cases bO
  grind
 | exit id=>exact cf
 | goto l=>exact cf
 | ret=>exact cf
 | panic xt=>exact cf
 | outgrown=>exact cf
end
end Go.Ab
namespace Go.Ab
open Go
section
variable{P:Program}[hD]{B:Nat}{bg:hz}{s k x:Nat}{ji:Code}{a t zr:TypeId}{iL:TypeDesc}
theorem Xe{o:Oper}{y:Nat}(bC:o.op=.typeAssert (.tmp y) t a false)(uk:P.underlying P.rt.typeAssertionError=some (.pointer zr))(bp:P.underlying a=some iL)(aR:∀ms,iL≠.interface ms){A:Act}{w:World}
  (al:A.eval (.tmp y)=.nilIface\/∃u v,A.eval (.tmp y)=.iface u v/\u≠a) {next:Act->World->Prop} {Q:Exit->Act->World->Prop} (cf:∀u eK gU,Q (.panic [{v:=.iface u eK,recovered:=false}]) A (w.alloc gU)):o.wpIn (ei none) 0 P A w next Q:=by
 refine⟨fun _ _=>trivial,?_⟩;obtain⟨eK,gU,U⟩:=amI (t:=t) (w:=w) uk bp aR al;have e:(o.semAt (ei none).round A.eval).run P w=.halt (.panic (.iface P.rt.typeAssertionError eK)) (w.alloc gU):=by simp_all[Oper.semAt_none,execOp]
 rw[e];exact cf _ _ _
def DH(a:TypeId)(v:Value):Prop:=v=.nilIface\/∃u z,v=.iface u z/\u≠a
theorem DH.rel{σ:cO}{v aH:Value}(h:DH a v)(hv:ch σ v aH):DH a aH:=by
 rcases h with rfl|⟨u,z,rfl,bc⟩
 cases hv;exact .inl rfl;cases hv;exact .inr ⟨_,_,rfl,bc⟩
def qY(P:Program)(bg:hz)(s k x:Nat)(a tt:TypeId)(A:Code):Prop:=
 ∀(B:Nat) (σ:cO) (h:Nat->Option Obj) (T:List Value) (H:ar) (w:World) (iB:Act),gS P B σ h H w->bH σ T iB.tmps.toList->k+1<T.length->DH a (b4 T x)->(∃v,(nI P tt).f (b4 T s) H=some (v,H))->∀(Q:Exit->Act->World->Prop),
  (∀cq aV u eK τ a6,cq.defers=iB.defers->fx B σ h H w τ a6 H aV->Q (.panic [{v:=.iface u eK,recovered:=false}]) cq aV)->A.wpIn (ei none) 0 P Q iB w
theorem qY.seq{tt:TypeId}{A C:Code}(h:qY P bg s k x a tt A):qY P bg s k x a tt (.seq A C):=by intro B σ aN T H w iB ep bd ag bC aE Q cf;exact wpIn_seq (h B σ aN T H w iB ep bd ag bC aE _ fun cq aV u eK τ a6 h1 h2=>cf cq aV u eK τ a6 h1 h2)
theorem Gc{σ:cO}{n:Nat}:gq σ n n:=fun i h1 h2=>absurd h2 (Nat.not_lt.2 h1)
theorem JY{o:Oper}{bf:Array Oper}{A:Act}(h:o.guard=none):Region.wanted o (yielded bf A.tmps)=true:=by grind[Region.wanted]
theorem Xf{T:List Value}{H:ar}{o:Oper}(bC:o.op=.move (.tmp x)):(iK P o.op).f bg T H=some (b4 T x,H):=by rw[bC];rfl
theorem JZ{T:List Value}{H:ar}{o:Oper}{tt:TypeId}(bC:o.op=.load tt (.tmp s)):(iK P o.op).f bg T H=(nI P tt).f (b4 T s) H:=by rw[bC];rfl
theorem wD{T:List Value}{i:Nat}{v:Value}(h:i<T.length):b4 (gJ T i v) i=v:=by simp_all[oS,oR]
theorem J0{T:List Value}{i j:Nat}{v:Value}(h:i≠j):b4 (gJ T i v) j=b4 T j:=zm (d:=some i) (fun e=>h (by grind))
theorem bH.size{σ:cO}{T:List Value}{A:Act}(h:bH σ T A.tmps.toList):A.tmps.size=T.length:=by have:=h.length;simp_all
theorem qY.Xg(dA:c8 P)(bE:h3 P bg){tt:TypeId}{id:Nat}{bf:Array Oper}{m o:Oper}{y:Nat}(uk:P.underlying P.rt.typeAssertionError=some (.pointer zr))(bp:P.underlying a=some iL)(aR:∀ms,iL≠.interface ms)
  (aN:bf[0]?=some m) (h1:bf[1]?=some o) (hm:m.op=.move (.tmp x)) (Xh:m.dst=some y) (Ir:m.guard=none) (bC:o.op=.typeAssert (.tmp y) t a false) (zp:o.guard=none) (a8:y<=k):qY P bg s k x a tt (.region id bf false):=by
 intro B σ h T H w iB ep bd ag wE aE Q cf;refine wpIn_region ?_;obtain⟨n,fj⟩:∃n,bf.size=n+2:=by
  have:1<bf.size:=by grind
  exact⟨bf.size-2,by omega⟩
 rw[fj,range_eq_range',List.range'_succ,List.range'_succ];simp only[wpOpsIn,aN,Nat.zero_add];rw[if_pos (JY Ir)];refine II dA bE m ep Gc bd (Xf hm) ?_;intro aH τ a6 aV hv st;simp only[h1];rw[if_pos (JY zp)];have Mx:iB.tmps.size=T.length:=bH.size bd;have hl:=ep.next st;refine Xe bC uk bp aR ?_ ?_;have lk:=DG (a:=iB) (i:=y) (v:=aH) (show @LT.lt Nat _ y iB.tmps.size by omega);rw[Xh,lk];exact wE.rel hv;intro u eK gU;exact cf _ _ u eK τ a6 JX (st.trans ep Gc (Pe hl (Xb _ _)))
noncomputable def Ka(bf:Array Oper)(p m:Nat)(harm:List Nat):Nat->Array Bool->Bool
 | 0,_=>false
 | n+1,b8=>(! (Region.ready .any bf b8).isEmpty)&&(Region.ready .any bf b8).all fun i=>if i==p then b8.getD m false else harm.contains i&&Ka bf p m harm n (b8.setIfInBounds i true)
theorem Xi(dA:c8 P)(bE:h3 P bg){tt:TypeId}{bf:Array Oper}{o:Oper}{y:Nat}{p m:Nat}{harm:List Nat}(uk:P.underlying P.rt.typeAssertionError=some (.pointer zr))(bp:P.underlying a=some iL)(aR:∀ms,iL≠.interface ms)
  (h1:bf[p]?=some o) (bC:o.op=.typeAssert (.tmp y) t a false) (zp:o.guard=none) (a8:y<=k)
  (hh:∀i∈harm,∃(dd:Oper) (d:Nat),bf[i]?=some dd/\dd.guard=none/\dd.dst=some d/\d≠s/\d≠x/\((dd.op=.move (.tmp x)/\d=y/\i=m)\/(dd.op=.load tt (.tmp s)/\d≠y/\i≠m)))
  {Q:Exit->Act->World->Prop} {lC:List Value} {H:ar} (wE:DH a (b4 lC x)) (aE:∃v,(nI P tt).f (b4 lC s) H=some (v,H)) (ag:k+1<lC.length):
  ∀(l5:Nat) (b8:Array Bool) (T:List Value) (B:Nat) (σ:cO) (h:Nat->Option Obj) (w:World) (iB:Act),Ka bf p m harm l5 b8=true->gS P B σ h H w->bH σ T iB.tmps.toList->T.length=lC.length->b4 T s=b4 lC s->b4 T x=b4 lC x->(b8.getD m false=true->b4 T y=b4 lC x)->
   (∀cq aV u eK τ a6,cq.defers=iB.defers->fx B σ h H w τ a6 H aV->Q (.panic [{v:=.iface u eK,recovered:=false}]) cq aV)->wpAnyIn (ei none) 0 P .any bf Q l5 b8 iB w
 | 0,b8,T,B,σ,h,w,iB,an,_,_,_,_,_,_,_=>by cases an
 | l5+1,b8,T,B,σ,h,w,iB,an,ep,bd,hlen,aw,al,hm,cf=>by
  unfold Ka at an;rw[Bool.and_eq_true]at an;obtain⟨je,py⟩:=an;refine⟨fun aN=>(by simp_all),fun i aq=>?_⟩;have an:=all_eq_true.1 py i aq;have Mx:iB.tmps.size=T.length:=bH.size bd;by_cases hip:i=p;subst hip;rw[if_pos (by simp)]at an;unfold wpOpIn;simp only[h1];rw[if_pos (JY zp)];refine Xe bC uk bp aR ?_ ?_;have:=(OX bd y);rw[hm an]at this;exact wE.rel this;intro u eK gU;exact cf _ _ u eK σ h rfl (Pe ep (Xb _ _));rw[if_neg (by simp_all),Bool.and_eq_true]at an;obtain⟨dd,d,b7,ca,g3,g4,g5,l2⟩:=hh i (by simp_all);unfold wpOpIn;simp only[b7];rw[if_pos (JY ca)];obtain⟨v,hv,Xj⟩:∃v,(iK P dd.op).f bg T H=some (v,H)/\(i=m->v=b4 lC x):=by
   rcases l2 with⟨bb,_,_⟩|⟨bb,_,dZ⟩
   exact⟨_,Xf bb,fun _=>al⟩;obtain⟨v,hv⟩:=aE
   grind[JZ]
  refine II dA bE dd ep Gc bd hv ?_;intro aH τ a6 aV amQ st;rw[g3];obtain⟨cC,bw⟩:=wg (σ:=τ) (bd.mono st.gO.mono) (some d) amQ;refine Xi dA bE uk bp aR h1 bC zp a8 hh wE aE ag l5 _ (hZ T (some d) v) B τ a6 aV _ an.2 (ep.next st) cC (by simp_all[F2]) (by simp_all[zm]) (by simp_all[zm]) ?_ ?_;intro Kb;by_cases him:i=m;rw[Xj him];have amR:d=y:=by omega
  subst amR;exact wD (by omega)
  simp_all[zm]
  intro cq e0 u eK iV h2 bb bt;exact cf cq e0 u eK iV h2 (bb.trans bw) (st.trans ep Gc bt)
theorem amS(w:World)(n:Nat):RowKit.Below w.heap.size w {w with drawn:=n}:=⟨rfl,rfl,rfl,Nat.le_refl _,fun _ _=>rfl⟩
theorem qY.any(dA:c8 P)(bE:h3 P bg){tt:TypeId}{id:Nat}{bf:Array Oper}{o:Oper}{y:Nat}{p m:Nat}{harm:List Nat}(uk:P.underlying P.rt.typeAssertionError=some (.pointer zr))(bp:P.underlying a=some iL)(aR:∀ms,iL≠.interface ms)
  (h1:bf[p]?=some o) (bC:o.op=.typeAssert (.tmp y) t a false) (zp:o.guard=none) (a8:y<=k)
  (hh:∀i∈harm,∃(dd:Oper) (d:Nat),bf[i]?=some dd/\dd.guard=none/\dd.dst=some d/\d≠s/\d≠x/\((dd.op=.move (.tmp x)/\d=y/\i=m)\/(dd.op=.load tt (.tmp s)/\d≠y/\i≠m)))
  (an:Ka bf p m harm bf.size (Array.replicate bf.size false)=true):qY P bg s k x a tt (.region id bf true):=by
 intro B σ h T H w iB ep bd ag wE aE Q cf;refine wpIn_region_any dA.mixed ?_;have st:=Pe ep (amS w (w.drawn+1));refine Xi dA bE uk bp aR h1 bC zp a8 hh wE aE ag _ _ T B σ h _ iB an (ep.next st) bd rfl rfl rfl ?_ ?_;intro Kb;rw[Array.getD_eq_getD_getElem?,Array.getElem?_replicate]at Kb
 grind
 intro cq e0 u eK τ h2 bb bt;exact cf cq e0 u eK τ h2 bb (st.trans ep Gc bt)
theorem amT{T:List Value}{k:Nat}{dS dD:Value}(h:x0 k T):gJ (gJ (gJ (gJ T k dS) (k+1) dD) k undef) (k+1) undef=T:=by
 obtain⟨h1,h2,aB⟩:=h;rw[oR,getD_eq_getElem?_getD]at h1 h2;rw[List.getElem?_eq_getElem (by omega)]at h1;rw[List.getElem?_eq_getElem (by omega)]at h2;simp only[Option.getD_some]at h1 h2;simp only[oS];refine ext_getElem (by simp) fun i sh qJ=>?_
 grind
theorem Xk{o:Oper}{lj jZ:Code}{T:List Value}{H:ar}{aS:dY}(er:x0 k T)(bp:P.underlying a=some iL)(aR:∀ms,iL≠.interface ms)(U:(dn P true (xY o x t a k lj jZ)).f bg T H=some aS):
  ((dn P true lj).f bg T H=some aS)\/(DH a (b4 T x)/\∃fw,(∀i,i≠k->i≠k+1->b4 fw i=b4 T i)/\fw.length=T.length/\(dn P true jZ).f bg fw H=some aS):=by
 obtain⟨h1,h2,aB⟩:=er;obtain⟨kS,x1,aDi,U⟩:=Bp (x:=dn P true (.region 0 #[{o with dst:=some k,op:=.typeAssert (.tmp x) t a true,guard:=none},{o with dst:=some (k+1),op:=.extract (.tmp k) 1,guard:=none}] false)) (y:=dn P true (.cond (.tmp (k+1)) (.seq (.region 0 #[{o with dst:=some k,op:=.assign (.const (.tuple #[])),guard:=none},{o with dst:=some (k+1),op:=.assign (.const (.tuple #[])),guard:=none}] false) lj) jZ)) U (fun bZ Xl=>by
  have Xl:gw P bg _ true T H (fun T H=>gw P bg _ true T H (fun T H=>some ⟨.normal,T,H⟩))=some bZ:=Xl
  grind[gw])
 have x1:gw P bg _ true T H (fun T H=>gw P bg {o with dst:=some (k+1),op:=.extract (.tmp k) 1,guard:=none} true T H (fun T H=>some ⟨.normal,T,H⟩))=some kS:=x1;unfold gw at x1;simp only at x1;split at x1
 case h_2=>cases x1
 case h_1 v br jC=>
 split at x1
 case h_2=>cases x1
 case h_1 b cB ni=>
 cases x1;have jC:fT H ((Ap P a true).f (b4 T x))=some (v,br):=jC;have amU:(Ap P a true).f=mi a (hX P a):=by simp_all[Ap]
 rw[amU]at jC;have Kc:∀(z:Value) (c:Bool),v=.tuple #[z,.bool c]->b=.bool c/\cB=br:=by
  intro z c hv;subst hv;have ni:(match b4 (gJ T k (.tuple #[z,.bool c])) k with|.tuple vs=>fT br (nY vs.toList 1)|_=>none)=some (b,cB):=ni;rw[wD (by omega)]at ni;have ni:some (Value.bool c,br)=some (b,cB):=ni
  simp_all
 have ie:oQ bg (b4 (gJ (gJ T k v) (k+1) b) (k+1)) (dn P true (.seq (.region 0 #[{o with dst:=some k,op:=.assign (.const (.tuple #[])),guard:=none},{o with dst:=some (k+1),op:=.assign (.const (.tuple #[])),guard:=none}] false) lj)) (dn P true jZ) (gJ (gJ T k v) (k+1) b) cB=some aS:=U;rw[wD (by simp_all[oS])]at ie;clear U;have ey:∀z,v=.tuple #[z,.bool false]->br=H->∃fw,(∀i,i≠k->i≠k+1->b4 fw i=b4 T i)/\fw.length=T.length/\(dn P true jZ).f bg fw H=some aS:=by intro z hv vk;obtain⟨rfl,rfl⟩:=Kc _ _ hv;subst vk;exact⟨_,fun i bb bt=>by simp_all[J0,Ne.symm],by simp_all[oS],ie⟩
 have dQ:∀(c:Option Value),fT H (c.map fun z=>Value.tuple #[z,.bool false])=some (v,br)->∃z,v=.tuple #[z,.bool false]/\br=H:=by
  intro c aD;cases c with
  | none=>cases aD
  | some z=>cases aD;simp_all
 cases al:b4 T x with
 | nilIface=>rw[al]at jC;obtain⟨z,hv,vk⟩:=dQ _ jC;exact .inr ⟨.inl rfl,ey z hv vk⟩
 | iface u z=>
  rw[al]at jC;have jC:fT H (if Nat.beq u a then some (.tuple #[z,.bool true])else(hX P a).map fun z=>.tuple #[z,.bool false])=some (v,br):=jC;by_cases bc:u=a
  ·subst bc;rw[if_pos (beq_refl u)]at jC;left;have jC:some (Value.tuple #[z,.bool true],H)=some (v,br):=jC;cases jC;obtain⟨rfl,rfl⟩:=Kc _ _ rfl;have Xm:(dn P true lj).f bg (gJ (gJ (gJ (gJ T k (.tuple #[z,.bool true])) (k+1) (.bool true)) k undef) (k+1) undef) cB=some aS:=ie;rw[amT ⟨h1,h2,aB⟩]at Xm;exact Xm
  ·rw[if_neg (by simp_all)]at jC;obtain⟨MA,hv,vk⟩:=dQ _ jC;exact .inr ⟨.inr ⟨u,z,rfl,bc⟩,ey MA hv vk⟩
 | _=>rw[al]at jC;cases jC
theorem mW.guard(dA:c8 P)(bE:h3 P bg){tt:TypeId}{o:Oper}{A:Code}(aQ:∀T H o,(dn P true ji).f bg T H=some o->o.cJ=.ret)(um:∀T H o,(dn P true ji).f bg T H=some o->∃v,(nI P tt).f (b4 T s) H=some (v,H))
  (bp:P.underlying a=some iL) (aR:∀ms,iL≠.interface ms) (bS:ln A=true) (aw:qh P s A=false) (aN:qh P k A=false) (h1:qh P (k+1) A=false) (amV:s<k) (Pf:qY P bg s k x a tt A):mW P bg s k ji (xY o x t a k A ji) A:=by
 intro T H aS er hf U;rcases Xk er bp aR U with a8|⟨wE,fw,yX,hlen,ey⟩
 exact mW.plain dA bE bS aw aN h1 T H aS er hf a8;refine⟨fun al=>(by grind),fun B σ h w iB ek cH bd=>?_⟩;obtain⟨v,hv⟩:=um _ _ _ ey;have AM:b4 fw s=b4 T s:=yX s (by omega) (by omega);refine Pf B σ h T H w iB ek bd er.2.2 wE ⟨v,by simp_all⟩ _ ?_;intro cq aV u eK τ a6 bb bt;exact .inr ⟨u,eK,τ,a6,H,fw,rfl,bb,bt,lD bE true ji _ _ _ hf ey,AM,hlen,ey⟩
theorem qi.guard(dA:c8 P)(bE:h3 P bg){tt:TypeId}{o:Oper}{A:Code}(aQ:∀T H o,(dn P true ji).f bg T H=some o->o.cJ=.ret)(um:∀T H o,(dn P true ji).f bg T H=some o->∃v,(nI P tt).f (b4 T s) H=some (v,H))
  (bp:P.underlying a=some iL) (aR:∀ms,iL≠.interface ms) (bS:ln A=true) (amV:s<k) (Pf:qY P bg s k x a tt A):qi P bg s k ji (xY o x t a k A ji) A:=by
 intro T H aS er hf U;rcases Xk er bp aR U with a8|⟨wE,fw,yX,hlen,ey⟩
 exact qi.plain dA bE bS T H aS er hf a8;intro B σ h w iB ek cH bd;obtain⟨v,hv⟩:=um _ _ _ ey;have AM:b4 fw s=b4 T s:=yX s (by omega) (by omega);refine Pf B σ h T H w iB ek bd er.2.2 wE ⟨v,by simp_all⟩ _ ?_;intro cq aV u eK τ a6 bb bt;exact .inr ⟨u,eK,τ,a6,H,fw,rfl,bb,bt,lD bE true ji _ _ _ hf ey,AM,hlen,ey⟩
end
end Go.Ab
namespace Go.Ab
open Go
section
variable{P:Program}[hD]{bg:hz}
structure Bq (P:Program) (tt e9 f cR:Nat) (kv:Value) (s b c d:Nat) (l:List Oper):Prop where
 cJ:∃bZ dr hn fr:Oper,l=[bZ,dr,hn,fr]/\(bZ.op=.load tt (.tmp s)/\bZ.dst=some b/\bZ.guard=none)/\(dr.op=.nilCheck (.tmp b)/\dr.dst=some c/\dr.guard=none)/\(hn.op=.fieldAddr e9 (.tmp c) f/\hn.dst=some d/\hn.guard=none)/\(fr.op=.store cR (.tmp d) (.const kv)/\fr.dst=none/\fr.guard=none)
 kv:uV P (.const kv)=true
noncomputable def za(P:Program)(tt e9 f cR:Nat)(kv v0:Value)(H:ar):Option ar:=match (nI P tt).f v0 H with
 | some (dS,_)=>match rv dS with
  | some dD=>match (yL P e9 f).f dD with
   | some v3=>match gD P cR with
    | some n=>match bm n v3 kv H with
     | some (_,aa)=>some aa
     | none=>none
    | none=>none
   | none=>none
  | none=>none
 | none=>none
theorem Pg{t:TypeId}{a v:Value}{H aa:ar}(U:(nI P t).f a H=some (v,aa)):aa=H:=by
 obtain⟨id,off,rfl⟩:=Vl U;unfold nI at U;split at U;rename_i n _ _;have U:(match r5 H id off n with|some l=>some (Value.agg l.toArray,H)|none=>none)=some (v,aa):=U
 grind
 have U:fT H (Ar H id off)=some (v,aa):=U;unfold fT at U
 grind
 grind
section
variable{tt e9 f cR:Nat}{kv:Value}{s b c d:Nat}{l:List Oper}
theorem Xn{o:Oper}(ag:uV P (.const kv)=true)(bC:o.op=.store cR (.tmp d) (.const kv)){T:List Value}{H:ar}:(iK P o.op).f bg T H=match gD P cR with|some n=>bm n (b4 T d) kv H|none=>none:=by
 rw[bC];have e:iK P (.store cR (.tmp d) (.const kv))=xe P (.store cR (.tmp d) (.const kv)):=by simp_all[iK,jM,uV,Op.operands]
 rw[e];show(match gD P cR with|some n=>(⟨fun T H=>bm n ((dT (.tmp d)).g T) ((dT (.const kv)).g T) H⟩:TE)|none=>⟨fun _ _=>none⟩).f T H=_;cases gD P cR<;>rfl
theorem amW(h:Bq P tt e9 f cR kv s b c d l){T:List Value}{H:ar}{aS:dY}(an:b<T.length)(aD:c<T.length)(aO:d<T.length)(U:jd P bg l l T H=some aS):za P tt e9 f cR kv (b4 T s) H=some aS.H:=by
 obtain⟨⟨bZ,dr,hn,fr,rfl,⟨c1,c2,a3⟩,⟨b1,b2,hB⟩,⟨eP,dR,ij⟩,⟨d1,d2,kT⟩⟩,ag⟩:=h
 replace U:gw P bg bZ ((ia _ bZ.guard).f T) T H (fun T H=>gw P bg dr ((ia _ dr.guard).f T) T H (fun T H=>gw P bg hn ((ia _ hn.guard).f T) T H (fun T H=>gw P bg fr ((ia _ fr.guard).f T) T H (fun T H=>some ⟨.normal,T,H⟩))))=some aS:=U
 rw[a3,hB,ij,kT]at U
 replace U:gw P bg bZ true T H (fun T H=>gw P bg dr true T H (fun T H=>gw P bg hn true T H (fun T H=>gw P bg fr true T H (fun T H=>some ⟨.normal,T,H⟩))))=some aS:=U
 unfold gw at U;simp only at U;rw[JZ c1,c2,b2,dR,d2]at U;unfold za;split at U
 case h_2=>cases U
 case h_1 dS br h1=>
 obtain rfl:=Pg h1;rw[h1];split at U
 case h_2=>cases U
 case h_1 dD cB h2=>
 rw[b1]at h2;have h2:fT br (rv (b4 (gJ T b dS) b))=some (dD,cB):=h2;rw[wD an]at h2;simp only;cases aR:rv dS with
 | none=>rw[aR]at h2;cases h2
 | some e0=>
 rw[aR]at h2;cases h2;split at U
 case h_2=>cases U
 case h_1 v3 iN aB=>
 rw[eP]at aB;have aB:fT br ((yL P e9 f).f (b4 (gJ (gJ T b dS) c dD) c))=some (v3,iN):=aB;rw[wD (by simp_all[oS])]at aB;simp only;cases Jt:(yL P e9 f).f dD with
 | none=>rw[Jt]at aB;cases aB
 | some ka=>
 rw[Jt]at aB;cases aB;split at U
 case h_2=>cases U
 case h_1 v4 uf bk=>
 rw[Xn ag d1]at bk;have bk:(match gD P cR with|some n=>bm n (b4 (gJ (gJ (gJ T b dS) c dD) d v3) d) kv br|none=>none)=some (v4,uf):=bk
 grind[wD,oS]
theorem amX(h:Bq P tt e9 f cR kv s b c d l){T:List Value}{H aa:ar}(an:b<T.length)(aD:c<T.length)(aO:d<T.length)(U:za P tt e9 f cR kv (b4 T s) H=some aa):∃aS,jd P bg l l T H=some aS/\aS.H=aa:=by
 obtain⟨⟨bZ,dr,hn,fr,rfl,⟨c1,c2,a3⟩,⟨b1,b2,hB⟩,⟨eP,dR,ij⟩,⟨d1,d2,kT⟩⟩,ag⟩:=h;show∃aS,gw P bg bZ ((ia _ bZ.guard).f T) T H (fun T H=>gw P bg dr ((ia _ dr.guard).f T) T H (fun T H=>gw P bg hn ((ia _ hn.guard).f T) T H (fun T H=>gw P bg fr ((ia _ fr.guard).f T) T H (fun T H=>some ⟨.normal,T,H⟩))))=some aS/\aS.H=aa;rw[a3,hB,ij,kT];show∃aS,gw P bg bZ true T H (fun T H=>gw P bg dr true T H (fun T H=>gw P bg hn true T H (fun T H=>gw P bg fr true T H (fun T H=>some ⟨.normal,T,H⟩))))=some aS/\aS.H=aa;unfold za at U;split at U
 case h_2=>cases U
 case h_1 dS br h1=>
 obtain rfl:=Pg h1;split at U
 case h_2=>cases U
 case h_1 dD h2=>
 split at U
 case h_2=>cases U
 case h_1 v3 aB=>
 split at U
 case h_2=>cases U
 case h_1 n dQ=>
 split at U
 case h_2=>cases U
 case h_1 v4 uf bk=>
 cases U;unfold gw;simp only;rw[JZ c1,h1,c2,b2,dR,d2];simp only;have bt:(iK P dr.op).f bg (hZ T (some b) dS) br=some (dD,br):=by rw[b1];show fT br (rv (b4 (gJ T b dS) b))=_;rw[wD an,h2];rfl
 rw[bt];simp only;have dZ:(iK P hn.op).f bg (hZ (hZ T (some b) dS) (some c) dD) br=some (v3,br):=by rw[eP];show fT br ((yL P e9 f).f (b4 (gJ (gJ T b dS) c dD) c))=_;rw[wD (by simp_all[oS]),aB];rfl
 rw[dZ];simp only;have iX:(iK P fr.op).f bg (hZ (hZ (hZ T (some b) dS) (some c) dD) (some d) v3) br=some (v4,aa):=by
  rw[Xn ag d1,dQ];show bm n (b4 (gJ (gJ (gJ T b dS) c dD) d v3) d) kv br=_
  grind[wD,oS]
 simp_all
end
end
end Go.Ab
namespace Go.Ab
open Go
section
variable{P:Program}[hD]
structure Gd (P:Program) (g:FuncId) (gn:Func) (tt e9 f cR:Nat) (kv:Value) (tg:Array Oper):Prop where
 fn:P.funcs[g]?=some gn
 body:∃(Kd Ke:Nat) (l6 ne:Oper),gn.body=some (.seq (.region Kd #[l6,ne] false) (.cond (.tmp 2) (.region Ke tg false) .skip))/\(∀(A:Act) w,(execOp A.eval l6).run P w=.ok .recover w)/\l6.dst=some 1/\l6.guard=none/\ne.dst=some 2/\ne.guard=none/\
  (∀(A:Act) w u eK,A.eval (.tmp 1)=.iface u eK->(execOp A.eval ne).run P w=.ok (.value (.bool true)) w)/\(∀(A:Act) w,A.eval (.tmp 1)=.nilIface->(execOp A.eval ne).run P w=.ok (.value (.bool false)) w)
 bI:gn.ntmps=6
 Xo:∀(tmps:Array Value) (w:World),(results gn tmps).run P w=.ok (.tuple #[]) w
 bf:Bq P tt e9 f cR kv 0 3 4 5 tg.toList
variable{g:FuncId}{gn:Func}{tt e9 f cR:Nat}{kv:Value}{tg:Array Oper}
theorem Kf{o:Oper}{y:Nat->Option Bool}(h:o.guard=none):Region.wanted o y=true:=by grind[Region.wanted]
theorem amY{c:Frame}{u:FrameMode}(h:c.mode=u):c={c with mode:=u}:=by subst h;rfl
theorem amZ(h:Gd P g gn tt e9 f cR kv tg)(aT:Value)(w:World):CallsDIn (ei none) 0 P g #[aT] .returning w fun e od aV=>(∃v,e=.returned v)/\od=.returning/\aV=w:=by
 obtain⟨Kd,Ke,l6,ne,an,Ph,lT,x2,hnd,Pj,_,am0⟩:=h.body;refine callsDIn_of_wpSIn h.fn an trivial fun Kg ao bc=>?_
 rw[h.bI];refine wpSIn_seq (wpSIn_region ?_);have fj:List.range (#[l6,ne]:Array Oper).size=[0,1]:=rfl;rw[fj];have ic:(#[l6,ne]:Array Oper)[0]?=some l6:=rfl;have bb:(#[l6,ne]:Array Oper)[1]?=some ne:=rfl;simp only[wpOpsSIn,ic,bb];rw[if_pos (Kf x2),Ph];simp only;have FT:recoverD (Kg::ao)=none:=by simp[recoverD,bc]
 rw[FT];simp only;refine⟨fun _ _=>trivial,fun _ _=>trivial,?_⟩;rw[if_pos (Kf Pj),am0 _ _ (by simp_all[DG])];simp only;refine wpSIn_cond (t:=false) (by simp_all[DG,Ga]) ?_;simp only[Bool.false_eq_true,if_false];refine wpSIn_of_wpIn rfl (wpIn_skip ?_);refine⟨by simp_all[JX],.returning,?_,_,h.Xo _ _,⟨_,rfl⟩,rfl,rfl⟩;rw[<- amY bc]
theorem am1{bg:hz}(dA:c8 P)(bE:h3 P bg)(h:Gd P g gn tt e9 f cR kv tg){B:Nat}{σ:cO}{hh:Nat->Option Obj}{H aa:ar}{w:World}{aT l9:Value}{u:TypeId}{eK:Value}(k:gS P B σ hh H w)(kU:ch σ aT l9)(hb:za P tt e9 f cR kv aT H=some aa)(cH:gq σ H.next aa.next):
  CallsDIn (ei none) 0 P g #[l9] (.panicking [{v:=.iface u eK,recovered:=false}]) w fun e od aV=>(∃v,e=.returned v)/\od=.panicking [{v:=.iface u eK,recovered:=true}]/\∃ τ a6,fx B σ hh H w τ a6 aa aV:=by
 obtain⟨Kd,Ke,l6,ne,an,Ph,lT,x2,hnd,Pj,UE,_⟩:=h.body;refine callsDIn_of_wpSIn h.fn an trivial fun Kg ao bc=>?_
 rw[h.bI];refine wpSIn_seq (wpSIn_region ?_);have fj:List.range (#[l6,ne]:Array Oper).size=[0,1]:=rfl;rw[fj];have ic:(#[l6,ne]:Array Oper)[0]?=some l6:=rfl;have bb:(#[l6,ne]:Array Oper)[1]?=some ne:=rfl;simp only[wpOpsSIn,ic,bb];rw[if_pos (Kf x2),Ph];simp only;have FT:recoverD (Kg::ao)=some (.iface u eK,{Kg with mode:=.panicking [{v:=.iface u eK,recovered:=true}]}::ao):=by simp[recoverD,bc]
 rw[FT];simp only;refine⟨fun _ _=>trivial,fun _ _=>trivial,?_⟩;rw[if_pos (Kf Pj),UE _ _ u eK (by simp_all[DG])];simp only;refine wpSIn_cond (t:=true) (by simp_all[DG,Ga]) ?_;simp only[if_true];refine wpSIn_of_wpIn rfl ?_;rw[lT,hnd];have bd:bH σ [aT,undef,undef,undef,undef,undef] (#[l9]++Array.replicate (6-(#[l9]:Array Value).size) undef).toList:=kU.cons (.cons .undef (.cons .undef (.cons .undef (.cons .undef (.cons .undef .nil)))));obtain⟨aS,xQ,rfl⟩:=amX (bg:=bg) h.bf (T:=[aT,undef,undef,undef,undef,undef]) (show 3<6 by decide) (show 4<6 by decide) (show 5<6 by decide) hb;refine wpIn_mono (Q:=fun e a aV=>e=.normal/\a.defers=[]/\∃ τ a6,fx B σ hh H w τ a6 aS.H aV) (wpIn_region ?_) ?_;refine amJ (Q:=fun e ds aV=>e=.normal/\ds=[]/\∃ τ a6,fx B σ hh H w τ a6 aS.H aV) (Pb:=fun t=>t !=1&&t !=2) ?_ _ {tmps:=#[l9]++Array.replicate (6-(#[l9]:Array Value).size) undef,defers:=[]} _ w ?_ ?_ ?_ ?_;obtain⟨bZ,dr,hn,fr,aE,⟨c1,c2,a3⟩,⟨b1,b2,hB⟩,⟨eP,dR,ij⟩,⟨d1,d2,kT⟩⟩:=h.bf.cJ;intro i o aq;have fJ:[bZ,dr,hn,fr][i]?=some o:=by grind
 match i,fJ with
 | 0,fJ=>simp_all[Op.operands]
 | 1,fJ=>simp_all[Op.operands]
 | 2,fJ=>simp_all[Op.operands]
 | 3,fJ=>simp_all[Op.operands]
 | n+4,fJ=>grind
 simp_all[Xa,Ne.symm]
 grind[Ga]
 rfl;rw[range_eq_range',<- Array.length_toList];exact Fu dA bE tg none tg.toList 0 rfl σ hh _ H w _ aS k cH bd xQ fun τ a6 cq aV bO q2 dz=>⟨rfl,q2,τ,a6,dz⟩
 rintro e a aV ⟨rfl,aO,τ,a6,aw⟩;exact⟨aO,_,rfl,_,h.Xo _ _,⟨_,rfl⟩,rfl,τ,a6,aw⟩
end
end Go.Ab
namespace Go.Ab
open Go
section
variable{P:Program}[hD][dX]
variable{g:FuncId}{gn:Func}{tt e9 Xp cR:Nat}{kv:Value}{tg:Array Oper}
theorem Xq(dA:c8 P){f:FuncId}{fn:Func}{oa i1 i9:Nat}{e2 ops9:Array Oper}{t s k b c d:Nat}{mk D:Oper}{cc:Call}{Bc Kh:Code}
  (hf:P.funcs[f]?=some fn) (an:fn.body=some (.seq (.region oa e2 false) (.seq (.region i1 #[mk,D] false) Bc)))
  (oc:mk.op=.makeFunc (.func g) #[] #[.tmp s]) (Xh:mk.dst=some t) (Ir:mk.guard=none)
  (lf:D.op=.defer cc) (AV:cc.callee=.value (.tmp t)) (am2:cc.args=#[]) (OZ:D.guard=none) (O0:D.dst=none)
  (ht:t<fn.ntmps) (ag:k+1<fn.ntmps) (aDj:fn.params.size+fn.nfree<=k) (x3:t<k) (Xr:t≠s)
  (am3:qh P k (.region oa e2 false)=false) (am4:qh P (k+1) (.region oa e2 false)=false)
  (j1:Gd P g gn tt e9 Xp cR kv tg) (iC:Bq P tt e9 Xp cR kv s b c d ops9.toList) (CW:b<=k) (iD:c<=k) (aDk:d<=k)
  (rC:fn.results=#[])
  (Pk:∀bg,h3 P bg->qi P bg s k (.seq (.region i9 ops9 false) .ret) Kh Bc):
  Dd P f (.seq (.region oa e2 false) (.seq (.region i1 #[mk] false) Kh)):=by
 intro n hA args H cJ v aa U B σ h w fN ig cH hv;have bE:=hA n (Nat.le_refl _);obtain⟨amg,bZ,dS,sk,aD,al,wF,bC,hlen⟩:=Oc U;rw[hf]at sk;cases sk;cases bC;refine⟨⟨fn,_,hf,an⟩,callsIn_of_wp_defers hf an trivial ?_⟩;have bd:=OW hv fn.ntmps;have aDl:fn.ntmps<=(args++List.replicate (fn.ntmps-args.length) undef).length:=by grind
 have Pl:∀i,args.length<=i->b4 (args++List.replicate (fn.ntmps-args.length) undef) i=undef:=by grind[oR]
 have am5:=Pl k (by omega);have C3:=Pl (k+1) (by omega);clear Pl;generalize args++List.replicate (fn.ntmps-args.length) undef=lC at*;obtain⟨kS,bp,qK,aD⟩:=Bp (x:=dn P true (.region oa e2 false)) (y:=dn P true (.seq (.region i1 #[mk] false) Kh)) aD (fun o bC=>(ud bE e2.toList e2.toList lC H o ig.ck bC).2);have am6:jd P (eJ P n) e2.toList e2.toList lC H=some kS:=bp;have F7:=lD bE true _ _ _ _ ig.ck bp;obtain⟨gU,je,aDm,aD⟩:=Bp (x:=dn P true (.region i1 #[mk] false)) (y:=dn P true Kh) aD (fun o bC=>(ud bE [mk] [mk] kS.T kS.H o (F7.wf ig.ck) bC).2);have Pm:jd P (eJ P n) [mk] [mk] kS.T kS.H=some gU:=je;have JR:=lD bE true _ _ _ _ (F7.wf ig.ck) je;have Ki:=lD bE true _ _ _ _ (JR.wf (F7.wf ig.ck)) aD;have kD:kS.T.length=lC.length:=F3 _ _ _ _ _ am6;have o3:gU.T.length=lC.length:=(F3 _ _ _ _ _ Pm).trans kD;have p8:gU.T=gJ kS.T t (.func (.func g) #[] #[b4 kS.T s]):=by
  have Br:gw P (eJ P n) mk ((ia [mk] mk.guard).f kS.T) kS.T kS.H (jd P (eJ P n) [mk] [])=some gU:=Pm;rw[Ir]at Br;have Br:gw P (eJ P n) mk true kS.T kS.H (jd P (eJ P n) [mk] [])=some gU:=Br;unfold gw at Br;simp only at Br;split at Br;rename_i dD cB aw;cases Br;have jG:dD=.func (.func g) #[] #[b4 kS.T s]:=by
   unfold iK at aw;split at aw;rw[oc]at aw;have aw:some (Value.func (.func g) #[] #[b4 kS.T s],kS.H)=some (dD,cB):=aw
   simp_all
   grind
  simp_all[hZ]
  grind
 have rP:b4 gU.T t=.func (.func g) #[] #[b4 kS.T s]:=by grind[wD]
 have AM:b4 gU.T s=b4 kS.T s:=by simp_all[J0]
 have am7:x0 k gU.T:=by refine⟨?_,?_,by omega⟩;rw[p8,J0 (by omega),Gb true k (.region oa e2 false) rfl am3 _ _ _ bp];exact am5;rw[p8,J0 (by omega),Gb true (k+1) (.region oa e2 false) rfl am4 _ _ _ bp];exact C3
 have Xs:gq σ H.next kS.H.next:=cH.left (Nat.le_trans JR.eu Ki.eu);refine wpIn_seq ?_;refine wpIn_mono (Bo dA bE true (.region oa e2 false) rfl _ _ _ bp σ h w ⟨_,[]⟩ none ig Xs bd) ?_;rintro e c1 dH ⟨bO,q2,τ,h1,dz,eM⟩;rw[qK]at bO;subst bO;show(Code.seq (.region i1 #[mk,D] false) Bc).wpIn (ei none) 0 P _ c1 dH;have ep:=ig.next eM;have wG:gq τ kS.H.next gU.H.next:=(cH.right eM.gO).left Ki.eu;refine wpIn_seq ?_;refine wpIn_region ?_;rw[range_eq_range'];have fj:(#[mk,D]:Array Oper).size=[mk].length+[D].length:=rfl;rw[fj];refine OV dA bE #[mk,D] [mk] none [D] [mk] 0 rfl (by simp_all) τ h1 kS.T kS.H dH c1 gU ep wG dz Pm ?_;intro iV h2 c2 e0 cC bw eX;have qQ:=OX cC t;rw[rP]at qQ;obtain⟨l9,kU,qQ⟩:∃l9,ch iV (b4 kS.T s) l9/\c2.eval (.tmp t)=.func (.func g) #[] #[l9]:=by
  generalize c2.eval (.tmp t)=z at qQ;cases qQ with
  | func _ _ bK _ eG al a8 _=>have bb:=al.qI;obtain⟨y,r,bt,aB,bk⟩:=a8.mP;have dZ:=bk.qI;subst dZ;exact⟨y,aB,by rw[show bK=#[]from Array.ext' bb,show eG=#[y]from Array.ext' bt]⟩
 have hl:=ep.next eX;have pq:c2.defers=[]:=bw.trans q2;refine WM (i:=1) rfl OZ lf O0 AV qQ ?_;rw[am2];show Bc.wpIn (ei none) 0 P _ _ e0;have Xt:gq iV gU.H.next bZ.H.next:=(cH.right eM.gO).right eX.gO;have Xu:fx B σ h H w iV h2 gU.H e0:=eM.trans ig Xs (eX.trans ep wG (fx.refl hl));have am8:=Pk _ bE gU.T gU.H bZ am7 (JR.wf (F7.wf ig.ck)) aD;have jh:v=.tuple #[]:=by
  rw[rC]at wF;have wF:some (Value.tuple #[])=some v:=wF
  simp_all
 have Xv:∀(tmps:Array Value) (w:World),(results fn tmps).run P w=.ok (.tuple #[]) w:=by simp_all[I8]
 refine wpIn_mono (am8 B iV h2 e0 {c2 with defers:=⟨.fn (.func g) #[l9],#[]++(#[]:Array Operand).map c2.eval⟩::c2.defers} hl Xt cC) ?_;have wH:∀ka,(invoke (.fn (.func g) #[l9]) (#[]++(#[]:Array Operand).map c2.eval)).run P ka=.ok (.enter g #[l9]) ka:=by
  intro ka;obtain⟨Kd,Ke,l6,ne,am9,_⟩:=j1.body;show(callFunc g ((#[]++(#[]:Array Operand).map c2.eval)++#[l9])).run P ka=_;have e:(#[]++(#[]:Array Operand).map c2.eval)++#[l9]=#[l9]:=by simp
  rw[e];exact IA dA j1.fn am9 _ _
 rintro e a3 ka (⟨b7,ca,Kj,aB,g3,g4⟩|⟨u,eK,Kj,aB,br,fw,b7,ca,g3,g4,g5,l2,g7⟩);have hb:=Xu.trans ig (cH.left Ki.eu) g4;have mq:LeavesIn (ei none) 0 P fn a3.tmps (fun e aV=>∃aH τ a6,e=.returned aH/\ch τ v aH/\fx B σ h H w τ a6 bZ.H aV) a3.defers .returning ka:=by rw[ca];show LeavesIn (ei none) 0 P fn a3.tmps _ (_::c2.defers) .returning ka;rw[pq];refine leavesIn_cons (by simp) (fun h=>by cases h) (f:=g) (args:=#[l9]) (wH ka) (fun _ _=>trivial) ?_;refine(amZ j1 l9 ka).mono ?_;rintro e od aV ⟨⟨v0,rfl⟩,rfl,rfl⟩;exact⟨_,Xv _ _,_,Kj,aB,rfl,by rw[jh];exact .tuple _ _ .nil .nil,hb⟩
 cases he:bZ.cJ with
 | exit id=>simp_all
 | normal=>rw[he]at b7;subst b7;exact mq
 | ret=>rw[he]at b7;subst b7;exact mq
 subst b7;have hb:=Xu.trans ig (cH.left Ki.eu) (show fx B iV h2 gU.H e0 Kj aB br ka from g3);have oe:=hl.next g3;obtain⟨Kk,Pn,_,ana⟩:=Bp (x:=dn P true (.region i9 ops9 false)) (y:=dn P true .ret) g7 (fun o bC=>(ud bE ops9.toList ops9.toList fw br o oe.ck bC).2);have Pn:jd P (eJ P n) ops9.toList ops9.toList fw br=some Kk:=Pn;have x4:bZ.H=Kk.H:=by
  have:some (⟨.ret,Kk.T,Kk.H⟩:dY)=some bZ:=ana
  grind
 have Xw:=amW iC (T:=fw) (by omega) (by omega) (by omega) Pn;rw[<- x4,g5,AM]at Xw;have anb:gq Kj br.next bZ.H.next:=Xt.right g3.gO;show LeavesIn (ei none) 0 P fn a3.tmps _ a3.defers (.panicking _) ka;rw[ca];show LeavesIn (ei none) 0 P fn a3.tmps _ (_::c2.defers) (.panicking _) ka;rw[pq];refine leavesIn_cons (by simp) (fun h=>by cases h) (f:=g) (args:=#[l9]) (wH ka) (fun _ _=>trivial) ?_;refine(am1 dA bE j1 oe (kU.mono g3.gO.mono) Xw anb).mono ?_;rintro e od aV ⟨⟨v0,rfl⟩,rfl,anc,bk,ane⟩;have anf:settle (.panicking [{v:=.iface u eK,recovered:=true}])=.returning:=by rfl
 show LeavesIn (ei none) 0 P fn a3.tmps _ [] (settle _) aV;rw[anf];refine⟨_,Xv _ _,_,anc,bk,rfl,by rw[jh];exact .tuple _ _ .nil .nil,?_⟩;refine hb.trans ig ?_ ane;exact cH.left (by exact g4.eu)
end
end Go.Ab
namespace Go.Ab
open Go
noncomputable def wI(P:Program)(f:Nat):Func:=(P.funcs.toList[f]?).getD default
theorem DI{P:Program}{f:Nat}(h:(P.funcs.toList[f]?).isSome=true):P.funcs[f]?=some (wI P f):=by simp_all[wI]
def dN:Code->Code|.seq a _=>a|c=>c
def cV:Code->Code|.seq _ b=>b|c=>c
def dF:Code->Code|.cond _ a _=>a|c=>c
def nN:Code->Array Oper|.region _ o _=>o|_=>#[]
def mX:Code->Nat|.region i _ _=>i|_=>0
def Xx:Code->Operand|.cond c _ _=>c|_=>.tmp 0
def iO(c:Code)(i:Nat):Oper:=((nN c).toList[i]?).getD default
def DJ(o:Oper):Call:=match o.op with|.defer c=>c|.call c=>c|_=>default
theorem Xy{P:Program}{l6:Oper}{tys:Array TypeId}(h:l6.op=.call ⟨.builtin .recover,#[],tys⟩)(A:Act)(w:World):(execOp A.eval l6).run P w=.ok .recover w:=by obtain⟨dst,op,cW,aZ,after,guard⟩:=l6;simp only at h;subst h;rfl
theorem ang{P:Program}{t u:TypeId}{eK:Value}{w:World}{ms:Array (String×TypeId)}(ht:P.underlying t=some (.interface ms)):(Op.equal t (.iface u eK) .nilIface).run P w=.ok false w:=by show(Op.equalIn (9999+1) t (.iface u eK) .nilIface).run P w=_;generalize 9999=d;simp only[Op.equalIn,Sem.run_bind,run_underlying ht,Result.andThen_ok,Sem.run_pure]
theorem anh{P:Program}{t:TypeId}{w:World}{ms:Array (String×TypeId)}(ht:P.underlying t=some (.interface ms)):(Op.equal t .nilIface .nilIface).run P w=.ok true w:=by show(Op.equalIn (9999+1) t .nilIface .nilIface).run P w=_;generalize 9999=d;simp only[Op.equalIn,Sem.run_bind,run_underlying ht,Result.andThen_ok,Sem.run_pure]
theorem Xz{P:Program}{ne:Oper}{t yt:TypeId}{ms:Array (String×TypeId)}(h:ne.op=.binOp .neq t (.tmp 1) (.const .nilIface) yt)(ht:P.underlying t=some (.interface ms)):
  (∀(A:Act) w u eK,A.eval (.tmp 1)=.iface u eK->(execOp A.eval ne).run P w=.ok (.value (.bool true)) w)/\(∀(A:Act) w,A.eval (.tmp 1)=.nilIface->(execOp A.eval ne).run P w=.ok (.value (.bool false)) w):=by
 obtain⟨dst,op,cW,aZ,after,guard⟩:=ne;simp only at h;subst h;have aD:∀A:Act,A.eval (.const .nilIface)=.nilIface:=fun _=>rfl
 simp_all[execOp,eqGuard,binOp,ang,anh]
end Go.Ab
