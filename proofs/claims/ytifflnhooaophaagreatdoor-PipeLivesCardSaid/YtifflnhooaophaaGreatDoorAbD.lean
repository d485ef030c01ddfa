/- texts of the nf, fh behind the mA -/
import Derived.DefersIn
import Derived.RecoverIn
import Derived.Calls
import Derived.OrdersIn
import Derived.Tactics
import Derived.Tactics2
import Derived.Test.YtifflnhooaophaaGreatDoorAbC
set_option linter.unusedVariables false
set_option linter.unusedSimpArgs false
set_option linter.unusedSectionVars false
open List Nat
namespace Go.Ab
open Go
def lZ:Code->Bool
 | .skip=>true
 | .region _ _ _=>true
 | .seq a b=>lZ a&&lZ b
 | .cond _ a b=>lZ a&&lZ b
 | .ret=>true
 | _=>false
section
variable{P:Program}[h7]{B:Nat}{bo:hQ}
def QN(B:Nat)(σ:c8)(h:Nat->Option Obj)(H:au)(w:World)(ds:List Deferred)(a1:el):Exit->Act->World->Prop:=
 fun e cH aW=>e=Cv a1.c6/\cH.defers=ds/\∃ τ aT,bL τ a1.T cH.tmps.toList/\fW B σ h H w τ aT a1.H aW
theorem CS(dW:cz P)(bI:iP P bo)(dv:Bool):∀(c:Code),lZ c=true->∀(T:List Value) (H:au) (a1:el),(dN P dv c).f bo T H=some a1->
  ∀(σ:c8) (h:Nat->Option Obj) (w:World) (a:Act) (r:Option Nat),hK P B σ h H w->gN σ H.next a1.H.next->bL σ T a.tmps.toList->c.wpIn (ew r) 0 P (QN B σ h H w a.defers a1) a w:=by
 intro c;induction c with
 | skip=>intro _ T H a1 U σ h w a r k _ bk;cases U;exact wpIn_skip ⟨rfl,rfl,σ,h,bk,fW.refl k⟩
 | ret=>intro _ T H a1 U σ h w a r k _ bk;cases U;exact wpIn_ret ⟨rfl,rfl,σ,h,bk,fW.refl k⟩
 | region id bD d=>
  intro _ T H a1 U σ h w a r k cW bk;cases d with
  | true=>exact XI dW bI bD id r k cW bk U fun ao τ aT cH aW bP q2 cS=>⟨by rw[ao];rfl,q2,τ,aT,bP,cS⟩
  | false=>refine wpIn_region ?_;have hm:=vw bI bD.toList _ _ _ _ k.dc U;rw[range_eq_range',<- Array.length_toList];refine Ha dW bI bD r bD.toList 0 (by simp) σ h T H w a a1 k cW bk U ?_;intro τ aT cH aW bP q2 cS;exact⟨by rw[hm.2];rfl,q2,τ,aT,bP,cS⟩
 | seq x y cZ wS=>
  intro bJ T H a1 U σ h w a r k cW bk;have bJ:(lZ x&&lZ y)=true:=bJ;rw[Bool.and_eq_true]at bJ;have U:nE ((dN P dv x).f bo T H) (fun T H=>(dN P dv y).f bo T H)=some a1:=U;obtain⟨b3,h1,h2⟩:=th U;have fw:=mi bI dv x _ _ _ k.dc h1;refine wpIn_seq ?_;rcases h2 with⟨ao,h2⟩|⟨ao,rfl⟩
  have dV:=mi bI dv y _ _ _ (fw.wf k.dc) h2;refine wpIn_mono (cZ bJ.1 _ _ _ h1 σ h w a r k (cW.left dV.dO) bk) ?_;rintro e cH aW ⟨bP,q2,τ,aT,cS,eI⟩;rw[ao]at bP;subst bP;show y.wpIn (ew r) 0 P (QN B σ h H w a.defers a1) cH aW;refine wpIn_mono (wS bJ.2 _ _ _ h2 τ aT aW cH r (k.next eI) (cW.right eI.hD) cS) ?_;rintro e cR fb ⟨cg,cd,jB,ql,g3,g4⟩;exact⟨cg,cd.trans q2,jB,ql,g3,eI.trans k (cW.left dV.dO) g4⟩;refine wpIn_mono (cZ bJ.1 _ _ _ h1 σ h w a r k cW bk) ?_;rintro e cH aW q;have bP:=q.1;cases he:a1.c6 with
  | normal=>simp_all
  | exit id=>rw[he]at bP;subst bP;exact q
  | ret=>rw[he]at bP;subst bP;exact q
 | cond c x y cZ wS=>
  intro bJ T H a1 U σ h w a r k cW bk;have bJ:(lZ x&&lZ y)=true:=bJ;rw[Bool.and_eq_true]at bJ;have U:pH bo ((ek c).g T) (dN P dv x) (dN P dv y) T H=some a1:=U;unfold pH at U
  grind[wpIn_cond,KH]
 | _=>intro bJ;cases bJ
theorem QO(dW:cz P)(bI:iP P bo)(bD:Array Oper)(all:List Oper)(r:Option Nat)(nK:List Oper){Q:Exit->Act->World->Prop}:∀(l:List Oper) (i:Nat),bD.toList.drop i=l++nK->(∀o∈l,o.guard=none)->
  ∀(σ:c8) (h:Nat->Option Obj) (T:List Value) (H:au) (w:World) (a:Act) (a1:el),hK P B σ h H w->gN σ H.next a1.H.next->bL σ T a.tmps.toList->jQ P bo all l T H=some a1->
  (∀ τ aT cH aW,bL τ a1.T cH.tmps.toList->cH.defers=a.defers->fW B σ h H w τ aT a1.H aW->wpOpsIn (ew r) 0 P bD Q (List.range' (i+l.length) nK.length) cH aW)->wpOpsIn (ew r) 0 P bD Q (List.range' i (l.length+nK.length)) a w
 | [],i,aD,hg,σ,h,T,H,w,a,a1,k,cW,bk,U,bY=>by
  cases U;have:=bY σ h a w bk rfl (fW.refl k)
  simp_all
 | o::l,i,aD,hg,σ,h,T,H,w,a,a1,k,cW,bk,U,bY=>by
  have bM:bD[i]?=some o:=by
   have:(bD.toList.drop i)[0]?=some o:=by grind
   grind
  have wP:bD.toList.drop (i+1)=l++nK:=by
   have:(bD.toList.drop i).drop 1=l++nK:=by grind
   grind[drop_drop]
  have gD:gW P bo o ((iT all o.guard).f T) T H (jQ P bo all l)=some a1:=U;rw[hg o (.head _)]at gD;have gD:gW P bo o true T H (jQ P bo all l)=some a1:=gD;unfold gW at gD;have e:(o::l).length+nK.length=(l.length+nK.length)+1:=by grind
  rw[e,List.range'_succ];simp only[wpOpsIn,bM];have aM:Region.wanted o (yielded bD a.tmps)=true:=by simp_all[Region.wanted]
  rw[if_pos aM];simp only at gD;split at gD;rename_i v bB al;have fw:=EK bI k.dc al;have dV:=vw bI all l _ bB a1 (fw.wf k.dc) gD;refine Kq dW bI o k (cW.left dV.1.dO) bk al ?_;intro aQ τ aT aW hv st;obtain⟨dx,bp⟩:=xU (σ:=τ) (bk.mono st.hD.mono) o.dst hv;refine QO dW bI bD all r nK l (i+1) wP (fun x ao=>hg x (mem_cons_of_mem _ ao)) τ aT _ bB aW _ a1 (k.next st) (cW.right st.hD) dx gD ?_;intro jB h2 cH fb bP q2 cS;rw[show i+1+l.length=i+(o::l).length by omega];exact bY jB h2 cH fb bP (q2.trans bp) (st.trans k (cW.left dV.1.dO) cS)
  grind
theorem HM(T:List Value)(d:Option Tmp)(v:Value):(iO T d v).length=T.length:=by
 cases d with
 | none=>rfl
 | some d=>show(hs T d v).length=_;simp_all[pJ]
theorem HN(all:List Oper):∀(l:List Oper) (T:List Value) (H:au) (a1:el),jQ P bo all l T H=some a1->a1.T.length=T.length
 | [],T,H,a1,U=>by cases U;rfl
 | o::l,T,H,a1,U=>by have U:gW P bo o ((iT all o.guard).f T) T H (jQ P bo all l)=some a1:=U;unfold gW at U;split at U;split at U;rw[HN all l _ _ _ U,HM];cases U;rw[HN all l _ _ _ U,HM]
theorem AQ{T:List Value}{d:Option Tmp}{v:Value}{i:Nat}(h:d≠some i):cf (iO T d v) i=cf T i:=by
 cases d with
 | none=>rfl
 | some d=>
  show cf (hs T d v) i=cf T i
  simp_all[pJ,pI]
theorem Lx(i:Nat)(all:List Oper):∀(l:List (Oper×nD)) (T:List Value) (H:au) (dI:List mD) (a1:el),(∀o∈l,o.1.dst≠some i)->qE P bo all l T H dI=some a1->cf a1.T i=cf T i
 | [],T,H,dI,a1,_,U=>by cases U;rfl
 | o::l,T,H,dI,a1,aO,U=>by
  have U:so P bo o.1 o.2 ((iT all o.1.guard).f T) T H dI (qE P bo all l)=some a1:=U;have h1:=aO o (.head _);have h2:∀x∈l,x.1.dst≠some i:=fun x ao=>aO x (mem_cons_of_mem _ ao)
  unfold so at U;split at U;split at U;split at U;rw[Lx i all l _ _ _ _ h2 U,AQ h1];cases U;cases U;rw[Lx i all l _ _ _ _ h2 U,AQ h1]
theorem QP{σ:c8}{args:List Value}{gp:Array Value}(hv:bL σ args gp.toList)(m:Nat):bL σ (args++List.replicate (m-args.length) undef) (gp++Array.replicate (m-gp.size) undef).toList:=by
 have hlen:args.length=gp.size:=by have:=hv.length;omega
 rw[Array.toList_append,Array.toList_replicate,hlen];refine hv.append ?_;generalize m-gp.size=n;induction n with
 | zero=>exact .nil
 | succ n bg=>exact cq.undef.cons bg
theorem QQ{σ:c8}{T:List Value}{a:Act}(bk:bL σ T a.tmps.toList)(i:Nat):cq σ (cf T i) (a.eval (.tmp i)):=by
 have h2:=bk.getD i;have h3:a.tmps.toList.getD i undef=a.tmps.getD i undef:=by simp_all
 rw[h3,<- pI]at h2;exact h2
theorem Zc{bD:Array Oper}{i:Nat}{D:Oper}{cc:Call}{aH:Operand}{g:FuncId}{first cap:Array Value}{a:Act}{w:World}{Q:Exit->Act->World->Prop}(bM:bD[i]?=some D)(hg:D.guard=none)(lF:D.op=.defer cc)(aoo:D.dst=none)
  (aB:cc.callee=.value aH) (hf:a.eval aH=.func (.func g) first cap) (bY:Q .normal {a with defers:=⟨.fn (.func g) cap,first++cc.args.map a.eval⟩::a.defers} w):wpOpsIn (ew none) 0 P bD Q (List.range' i 1) a w:=by
 show wpOpsIn (ew none) 0 P bD Q [i] a w;simp only[wpOpsIn,bM];have aM:Region.wanted D (yielded bD a.tmps)=true:=by simp_all[Region.wanted]
 rw[if_pos aM];refine⟨fun _ _=>trivial,?_⟩;have e:(D.semAt (ew none).round a.eval).run P w=.ok (.defer ⟨.fn (.func g) cap,first++cc.args.map a.eval⟩) w:=by simp_all[Oper.semAt_none,execOp,resolve,Deferred.ofValue]
 rw[e,Oper.uponIn_defer,aoo];exact bY
theorem CT{x y:JE}{T:List Value}{H:au}{a1:el}(U:nE (x.f bo T H) (fun T H=>y.f bo T H)=some a1)(aU:∀o,x.f bo T H=some o->o.c6=.normal):∃b3,x.f bo T H=some b3/\b3.c6=.normal/\y.f bo b3.T b3.H=some a1:=by grind[th]
end
section
variable{P:Program}[h7][eA]
theorem Zd{σ:c8}{T:List Value}{a:Act}(bk:bL σ T a.tmps.toList):∀(l:List Operand),(∀x∈l,∃i,x=.tmp i)->bL σ (kO l T) (l.map a.eval)
 | [],_=>.nil
 | x::l,h=>by obtain⟨i,rfl⟩:=h x (.head _);exact(QQ bk i).cons (Zd bk l fun y ba=>h y (mem_cons_of_mem _ ba))
theorem Ze{T dA:List Value}:∀(l:List Operand),(∀x∈l,∃i,x=.tmp i/\cf dA i=cf T i)->kO l dA=kO l T
 | [],_=>rfl
 | x::l,h=>by obtain⟨i,rfl,an⟩:=h x (.head _);show cf dA i::kO l dA=cf T i::kO l T;rw[an,Ze l fun y ba=>h y (mem_cons_of_mem _ ba)]
theorem QR(dW:cz P){B:Nat}{bo:hQ}(bI:iP P bo){A hX Zf:Code}{σ:c8}{h:Nat->Option Obj}{T:List Value}{H:au}{w:World}{a:Act}{a1:el}{Q:Exit->Act->World->Prop}(bJ:lZ A=true)(aB:(dN P true (.seq A hX)).f bo T H=some a1)
  (k:hK P B σ h H w) (cW:gN σ H.next a1.H.next) (bk:bL σ T a.tmps.toList) (aO:a.defers=[])
  (aop:a1.c6≠.normal->∀ τ aT cH aW,bL τ a1.T cH.tmps.toList->cH.defers=[]->fW B σ h H w τ aT a1.H aW->Q (Cv a1.c6) cH aW)
  (aFD:(∃id,a1.c6=.exit id)->False)
  (next:∀b3:el,(dN P true hX).f bo b3.T b3.H=some a1->gJ H b3.H->gJ b3.H a1.H->∀ τ aT cH aW,bL τ b3.T cH.tmps.toList->cH.defers=[]->fW B σ h H w τ aT b3.H aW->Zf.wpIn (ew none) 0 P Q cH aW):
  (Code.seq A Zf).wpIn (ew none) 0 P Q a w:=by
 have U:nE ((dN P true A).f bo T H) (fun T H=>(dN P true hX).f bo T H)=some a1:=aB;obtain⟨b3,h1,h2⟩:=th U;have fw:=mi bI true A _ _ _ k.dc h1;refine wpIn_seq ?_;rcases h2 with⟨ao,h2⟩|⟨ao,rfl⟩
 have dV:=mi bI true hX _ _ _ (fw.wf k.dc) h2;refine wpIn_mono (CS dW bI true A bJ _ _ _ h1 σ h w a none k (cW.left dV.dO) bk) ?_;rintro e cH aW ⟨bP,q2,τ,aT,cS,eI⟩;rw[ao]at bP;subst bP;exact next b3 h2 fw dV τ aT cH aW cS (q2.trans aO) eI
 refine wpIn_mono (CS dW bI true A bJ _ _ _ h1 σ h w a none k cW bk) ?_;rintro e cH aW ⟨bP,q2,τ,aT,cS,eI⟩;have:=aop ao τ aT cH aW cS (q2.trans aO) eI;subst bP;cases he:a1.c6 with
 | normal=>simp_all
 | exit id=>simp_all
 | ret=>rw[he]at this;exact this
theorem aoq(dW:cz P){f:FuncId}{fn:Func}{HO AR HP:Code}{i4 od Fs:Nat}{ops4 tr:Array Oper}{ts:List Oper}{g:FuncId}{D C:Oper}{cc:Call}{gn:Func}{gc:Code}
  (hf:P.funcs[f]?=some fn) (ak:fn.body=some (.seq HO (.seq AR (.seq HP (.seq (.region i4 ops4 false) (.seq (.region od tr true) .ret))))))
  (dM:lZ HO=true) (dx:lZ AR=true) (bp:lZ HP=true) (aG:ops4.toList=ts++[D]) (Ly:∀o∈ts,o.guard=none)
  (lF:D.op=.defer cc) (yX:cc.callee=.value (.func g)) (QS:D.guard=none) (QT:D.dst=none)
  (ka:C.op=.call cc) (aor:C.guard=none) (aos:C.dst=none)
  (Cz:∀x∈cc.args.toList,∃i,x=.tmp i/\∀o∈s6 P tr.toList,o.1.dst≠some i)
  (hg:P.funcs[g]?=some gn) (QU:gn.body=some gc) (aot:lZ gc=true) (aou:∀args H,eA.lG g args H=none) (aov:eA.pd g=none):
  EV P f (.seq HO (.seq AR (.seq HP (.seq (.region i4 ts.toArray false) (.seq (.region od tr true) (.seq (.region Fs #[C] false) .ret)))))):=by
 intro n hA args H c6 v ab U B σ h w gp k cW hv;have bI:=hA n (Nat.le_refl _);obtain⟨aow,b3,ej,vu,aB,ao,sw,bM,_⟩:=Qd U;rw[hf]at vu;cases vu;cases bM;refine⟨⟨fn,_,hf,ak⟩,callsIn_of_wp_defers hf ak trivial ?_⟩;have bk:=QP hv fn.ntmps;generalize args++List.replicate (fn.ntmps-args.length) undef=mh at*;have QV:∀ {nk:c8} {aT:Nat->Option Obj} {gq:au} {gx:World},hK P B nk aT gq gx->fW B σ h H w nk aT gq gx->gN σ H.next gq.next->b3.c6≠.normal->∀ τ h2 cH aW,bL τ b3.T cH.tmps.toList->cH.defers=[]->fW B nk aT gq gx τ h2 b3.H aW->
   bodyPostDIn (ew none) 0 P fn (fun e aW=>∃aQ τ aT,e=.returned aQ/\cq τ v aQ/\fW B σ h H w τ aT b3.H aW) (Cv b3.c6) cH aW:=by
  intro nk aT gq gx hS me rP dC τ h2 cH aW cS q2 eI;have dZ:=hS.next eI;have wT:LeavesIn (ew none) 0 P fn cH.tmps (fun e aW=>∃aQ τ aT,e=.returned aQ/\cq τ v aQ/\fW B σ h H w τ aT b3.H aW) cH.defers .returning aW:=by rw[q2];obtain⟨aQ,nL,jC⟩:=KO dZ cS sw;exact⟨aQ,nL,aQ,τ,h2,rfl,jC,me.trans k rP eI⟩
  cases he:b3.c6 with
  | normal=>simp_all
  | exit id=>simp_all
  | ret=>exact wT
 refine QR dW bI dM aB k cW bk rfl (QV k (fW.refl k) (fun i a b=>absurd b (Nat.not_lt.2 a))) (fun⟨id,he⟩=>ao id he) ?_;clear aB bk;intro ll aB HQ aox aoy aJ a0 gx bk aoz me;have hS:=k.next me;have rP:gN σ H.next ll.H.next:=cW.left aox.dO;have oN:=cW.right me.hD;refine QR dW bI dx aB hS oN bk aoz (QV hS me rP) (fun⟨id,he⟩=>ao id he) ?_;clear aB bk;intro il aB Lz Zg aFE h1 cU dT bk rH dt;have dZ:=hS.next dt;have gY:gN aoy ll.H.next il.H.next:=oN.left Zg.dO;have r1:=oN.right dt.hD;have a8:=me.trans k rP dt;have cg:gN σ H.next il.H.next:=cW.left Zg.dO;refine QR dW bI bp aB dZ r1 bk rH (QV dZ a8 cg) (fun⟨id,he⟩=>ao id he) ?_;clear aB bk;intro dL aB dV aoA Zh h2 cR fb bk p7 cP;have gd:=dZ.next cP;have r2:=r1.right cP.hD;have dn:=a8.trans k cg cP;have cd:gN σ H.next dL.H.next:=cW.left aoA.dO;obtain⟨hJ,h3,aFF,aB⟩:=CT (x:=dN P true (.region i4 ts.toArray false)) (y:=dN P true (.seq (.region od tr true) (.seq (.region Fs #[C] false) .ret))) aB (fun o bM=>(vw bI _ _ dL.T dL.H o gd.dc bM).2);have aoB:jQ P (e7 P n) ts ts dL.T dL.H=some hJ:=by have LA:jQ P (e7 P n) ts.toArray.toList ts.toArray.toList dL.T dL.H=some hJ:=h3;omega
 have qK:=mi bI true _ _ _ _ gd.dc h3;have Zi:=mi bI true _ _ _ _ (qK.wf gd.dc) aB;refine wpIn_seq ?_;refine wpIn_region ?_;rw[range_eq_range'];have fc:ops4.size=ts.length+[D].length:=by grind[length_append]
 rw[fc];have f3:gN Zh dL.H.next hJ.H.next:=r2.left Zi.dO;refine QO dW bI ops4 ts none [D] ts 0 (by grind) Ly Zh h2 dL.T dL.H fb cR hJ gd f3 bk aoB ?_;intro QW LA a3 kz HR aoC sz;have mg:=gd.next sz;have r3:=r2.right sz.hD;have t3:=dn.trans k cd sz;have g3:gN σ H.next hJ.H.next:=cW.left Zi.dO;refine Zc (i:=0+ts.length) (D:=D) ?_ QS lF QT yX (a:=a3) (g:=g) (first:=#[]) (cap:=#[]) rfl ?_
 ·have:ops4.toList[0+ts.length]?=some D:=by grind
  grind
 show(Code.seq (.region od tr true) .ret).wpIn (ew none) 0 P _ _ kz;obtain⟨kL,a6,aoD,aB⟩:=CT (x:=dN P true (.region od tr true)) (y:=dN P true (.seq (.region Fs #[C] false) .ret)) aB (fun o bM=>by
  have bM:o4 P (e7 P n) tr.toList hJ.T hJ.H=some o:=bM;unfold o4 at bM;split at bM
  ·have:∀(l:List (Oper×nD)) (T:List Value) (H:au) (dI:List mD),qE P (e7 P n) tr.toList l T H dI=some o->o.c6=.normal:=by
    intro l;induction l with
    | nil=>intro T H dI h;cases h;rfl
    | cons x l bg=>
     intro T H dI h;have h:so P (e7 P n) x.1 x.2 ((iT tr.toList x.1.guard).f T) T H dI (qE P (e7 P n) tr.toList l)=some o:=h;unfold so at h
     grind
   grind
  grind)
 have Zj:∃dI,qE P (e7 P n) tr.toList (s6 P tr.toList) hJ.T hJ.H dI=some kL:=by
  have HS:o4 P (e7 P n) tr.toList hJ.T hJ.H=some kL:=a6
  grind[o4]
 obtain⟨aFG,Zj⟩:=Zj;have Ft:=mi bI true _ _ _ _ (mg.dc) a6;have Zk:=mi bI true _ _ _ _ (Ft.wf mg.dc) aB;have f5:gN QW hJ.H.next kL.H.next:=r3.left Zk.dO;obtain⟨yb,bq,aFH,aB⟩:=CT (x:=dN P true (.region Fs #[C] false)) (y:=dN P true .ret) aB (fun o bM=>(vw bI [C] [C] kL.T kL.H o (Ft.wf mg.dc) bM).2);have aoE:b3=⟨.ret,yb.T,yb.H⟩:=by
  have:some (⟨.ret,yb.T,yb.H⟩:el)=some b3:=aB
  grind
 have AS:gW P (e7 P n) C ((iT [C] C.guard).f kL.T) kL.T kL.H (jQ P (e7 P n) [C] [])=some yb:=bq;rw[aor]at AS;have AS:gW P (e7 P n) C true kL.T kL.H (jQ P (e7 P n) [C] [])=some yb:=AS;unfold gW at AS;simp only at AS;split at AS
 case h_2=>cases AS
 case h_1 zl zm Fu=>
 have ih:yb=⟨.normal,kL.T,zm⟩:=by have:some (⟨.normal,iO kL.T C.dst zl,zm⟩:el)=some yb:=AS;rw[aos]at this;cases this;rfl
 subst ih;subst aoE;have xX:∃c6,e7 P n (.call g (kO cc.args.toList kL.T) kL.H)=some ⟨c6,[zl],zm⟩:=by
  unfold iu at Fu;split at Fu
  ·rw[ka]at Fu;unfold yL at Fu;simp only[yX]at Fu;obtain⟨GW,c6,ht,vC⟩:=G9 Fu;have QX:some (xG.fn g (iC [] (iC (kO cc.args.toList kL.T) [])))=some GW:=ht;cases QX;refine⟨c6,?_⟩;have vC:e7 P n (.call g (iC [] (iC (kO cc.args.toList kL.T) [])) kL.H)=some ⟨c6,[zl],zm⟩:=vC
   grind[jm]
  grind
 obtain⟨aoF,xX⟩:=xX;cases n with
 | zero=>cases xX
 | succ m=>
 have xX:(match eA.lG g (kO cc.args.toList kL.T) kL.H with|some v=>some (⟨.ret,[v],kL.H⟩:el)|none=>match eA.pd g with|some c=>sB P g c (e7 P m) (kO cc.args.toList kL.T) kL.H|none=>(vf P g).f (e7 P m) (kO cc.args.toList kL.T) kL.H)=some ⟨aoF,[zl],zm⟩:=xX;rw[aou,aov]at xX;simp only at xX;obtain⟨aFI,aFJ,Zl,aFK,yc,Zm,aoG,aFL,aoH,AT⟩:=Qa xX;rw[hg]at yc;cases yc;rw[QU]at Zm;cases Zm;cases AT;have aoI:=hA m (le_succ m);have lE:kO cc.args.toList kL.T=kO cc.args.toList hJ.T:=Ze _ fun x ao=>by grind[Lx]
 have Fv:bL QW (kO cc.args.toList hJ.T) (cc.args.map a3.eval).toList:=by grind[Array.toList_map,Zd]
 refine wpIn_seq ?_;refine wpIn_mono (CS dW bI true (.region od tr true) rfl _ _ _ a6 QW LA kz {a3 with defers:=_::a3.defers} none mg f5 HR) ?_;rintro e a5 Fw ⟨bP,q2,QY,HS,cS,eI⟩;rw[aoD]at bP;subst bP;refine wpIn_ret ?_;have CU:=mg.next eI;have t5:=t3.trans k g3 eI;have g5:gN σ H.next kL.H.next:=cW.left Zk.dO;have Fx:=r3.right eI.hD;show LeavesIn (ew none) 0 P fn a5.tmps _ a5.defers .returning Fw;rw[q2];show LeavesIn (ew none) 0 P fn a5.tmps _ (_::a3.defers) .returning Fw;rw[aoC,p7];refine leavesIn_cons (by simp) (fun h=>by cases h) (f:=g) (args:=(#[]++cc.args.map a3.eval)++#[]) ?_ (fun _ _=>trivial) ?_
 ·exact Kk dW hg QU _ _
 have aoJ:bL QY (kO cc.args.toList kL.T) ((#[]++cc.args.map a3.eval)++#[]).toList:=by
  rw[lE];have:=Fv.mono eI.hD.mono
  grind
 have aoK:=QP aoJ gn.ntmps;refine(callsDIn_of_wp (R:=fun e aW=>∃v0 τ aT,e=.returned v0/\fW B QY HS kL.H Fw τ aT Zl.H aW) hg QU trivial ?_).mono ?_
 ·refine wpIn_mono (CS dW aoI true gc aot _ _ _ aoG QY HS Fw ⟨_,[]⟩ none CU Fx aoK) ?_;rintro e kp QZ ⟨LB,Zn,LC,LD,aoL,Q0⟩;have AU:=CU.next Q0;obtain⟨aQ,nL,jC⟩:=KO AU aoL aoH;cases he:Zl.c6 with
  | exit id=>simp_all
  | normal=>rw[he]at LB;subst LB;exact⟨Zn,aQ,nL,aQ,LC,LD,rfl,Q0⟩
  | ret=>rw[he]at LB;subst LB;exact⟨Zn,aQ,nL,aQ,LC,LD,rfl,Q0⟩
 ·rintro e pa QZ ⟨rfl,v0,LC,LD,rfl,Q1⟩;have AU:=CU.next Q1;obtain⟨aQ,nL,jC⟩:=KO AU (cS.mono Q1.hD.mono) sw;exact⟨aQ,nL,aQ,LC,LD,rfl,jC,t5.trans k g5 Q1⟩
end
end Go.Ab
namespace Go.Ab
open Go
def aoM:Code->Code
 | .seq HO (.seq AR (.seq HP (.seq (.region i4 ops4 false) (.seq Fx .ret))))=>
  match ops4.toList.reverse with
  | D::l=>match D.op with
   | .defer cc=>.seq HO (.seq AR (.seq HP (.seq (.region i4 l.reverse.toArray false) (.seq Fx (.seq (.region i4 #[{D with op:=.call cc,dst:=none}] false) .ret)))))
   | _=>.skip
  | []=>.skip
 | _=>.skip
def zn(o:Oper)(x:Tmp)(t a:TypeId)(k:Tmp)(mL ld:Code):Code:=
 .seq (.region 0 #[{o with dst:=some k,op:=.typeAssert (.tmp x) t a true,guard:=none},{o with dst:=some (k+1),op:=.extract (.tmp k) 1,guard:=none}] false)
  (.cond (.tmp (k+1)) (.seq (.region 0 #[{o with dst:=some k,op:=.assign (.const (.tuple #[])),guard:=none},{o with dst:=some (k+1),op:=.assign (.const (.tuple #[])),guard:=none}] false) mL) ld)
def aoN(t a3 ln:TypeId)(k:Tmp):Code->Code
 | .seq oN (.seq (.region i1 uw d1) (.seq (.seq r2 (.cond dg aoO .skip)) (.seq rY (.seq (.seq aoP (.seq aoQ (.cond fJ jU .skip))) aoR))))=>
  match uw.toList with
  | mk::_=>.seq oN (.seq (.region i1 #[mk] d1) (.seq (.seq r2 (.cond dg (zn mk 1 t a3 k aoO jU) .skip)) (.seq rY (zn mk 1 t ln k (.seq (.seq aoP (.seq aoQ (.cond fJ jU .skip))) aoR) jU))))
  | []=>.skip
 | _=>.skip
def aoS(t a:TypeId)(k:Tmp):Code->Code
 | .seq oN (.seq (.region i1 uw d1) (.seq vE (.seq A (.seq (.seq aoT (.cond c R .skip)) aoU))))=>
  match uw.toList with
  | mk::_=>.seq oN (.seq (.region i1 #[mk] d1) (.seq vE (zn mk 1 t a k (.seq A (.seq (.seq aoT (.cond c R .skip)) aoU)) R)))
  | []=>.skip
 | _=>.skip
def zo(P:Program)(f:FuncId)(T:Code->Code):Code:=match P.funcs.toList[f]? with
 | some fn=>match fn.body with
  | some c=>T c
  | none=>.skip
 | none=>.skip
end Go.Ab
namespace Go.Ab
open Go
theorem Zo{a:Act}{i j:Tmp}{v:Value}(h:i≠j):(a.put (some i) v).eval (.tmp j)=a.eval (.tmp j):=by simp_all[Act.put,Act.eval]
theorem Fy{a:Act}{i:Tmp}{v:Value}(h:i<a.tmps.size):(a.put (some i) v).eval (.tmp i)=v:=by simp_all[Act.put,Act.eval]
theorem HT{a:Act}{d:Option Tmp}{v:Value}:(a.put d v).tmps.size=a.tmps.size:=by cases d<;>simp[Act.put]
theorem LG{a:Act}{d:Option Tmp}{v:Value}:(a.put d v).defers=a.defers:=by cases d<;>rfl
theorem Zp(w:World)(o:Go.Obj):RowKit.Below w.heap.size w (w.alloc o):=
 ⟨rfl,rfl,rfl,by simp_all,fun k ah=>by show(w.heap.push o)[k]?=_;grind⟩
theorem aoV{P:Program}{e:TypeId}{w:World}{s d:Option TypeId}{a:TypeId}{m:String}(h:P.underlying P.rt.typeAssertionError=some (.pointer e)):
  ∃pv o,(runtimePanic (α:=Value) (.typeAssertion s d a m)).run P w=.halt (.panic (.iface P.rt.typeAssertionError pv)) (w.alloc o):=by
 refine⟨.pointer (some ⟨w.heap.size,0,none⟩),?_⟩;simp only[runtimePanic,Sem.run_bind,run_program,elemOf,run_underlying h,Result.andThen_ok,Sem.run_pure,newVar,newRow,run_newObj_alloc];exact⟨_,rfl⟩
theorem aoW{P:Program}{e t a:TypeId}{w:World}{x:Value}{jn:TypeDesc}(h:P.underlying P.rt.typeAssertionError=some (.pointer e))(bn:P.underlying a=some jn)(aU:∀ms,jn≠.interface ms)
  (ao:x=.nilIface\/∃u v,x=.iface u v/\u≠a):∃pv o,(Instr.typeAssert x t a false).run P w=.halt (.panic (.iface P.rt.typeAssertionError pv)) (w.alloc o):=by
 have hf:∀s d m,∃pv o,(runtimePanic (α:=Value) (.typeAssertion s d a m)).run P w=.halt (.panic (.iface P.rt.typeAssertionError pv)) (w.alloc o):=fun s d m=>aoV h
 rcases ao with rfl|⟨u,v,rfl,bf⟩
 simp_all[Instr.typeAssert,run_underlying]
 simp_all[Instr.typeAssert,run_underlying]
theorem Zq{a b:Act}{d:Option Tmp}{v:Value}{t:Tmp}(al:a.tmps.size=b.tmps.size)(h:a.eval (.tmp t)=b.eval (.tmp t)):(a.put d v).eval (.tmp t)=(b.put d v).eval (.tmp t):=by
 cases d with
 | none=>exact h
 | some i=>grind[Fy,Act.put,Act.eval,Zo]
theorem aoX{P:Program}{bD:Array Oper}{Q2:Tmp->Bool}{Q:Exit->List Deferred->World->Prop}
  (WZ:∀(i:Nat) (o:Oper),bD[i]?=some o->o.guard=none/\(∀aq b,o.op≠.select aq b)/\∀x∈o.op.operands,∀t,x=.tmp t->Q2 t=true):
  ∀(l:List Nat) (a b:Act) (w:World),(∀t,Q2 t=true->a.eval (.tmp t)=b.eval (.tmp t))->a.tmps.size=b.tmps.size->a.defers=b.defers->
   wpOpsIn (ew none) 0 P bD (fun e a w=>Q e a.defers w) l a w->wpOpsIn (ew none) 0 P bD (fun e a w=>Q e a.defers w) l b w:=by
 intro l;induction l with
 | nil=>intro a b w _ _ aO h;show Q _ b.defers w;rw[<- aO];exact h
 | cons i l bg=>
  intro a b w ah al aO h;unfold wpOpsIn at h⊢;cases bM:bD[i]? with
  | none=>grind
  | some o=>
   simp only[bM]at h⊢;obtain⟨hg,aoY,kk⟩:=WZ i o bM;have aM:∀c:Act,Region.wanted o (yielded bD c.tmps)=true:=fun c=>by simp_all[Region.wanted]
   rw[if_pos (aM _)]at h⊢;refine⟨fun _ _=>trivial,?_⟩;have h2:=h.2;have e:(o.semAt (ew none).round b.eval)=(o.semAt (ew none).round a.eval):=by
    show o.semAt none b.eval=o.semAt none a.eval;rw[Oper.semAt_none,Oper.semAt_none];refine execOp_congr o aoY fun x ao=>?_
    cases x with
    | tmp t=>grind
    | _=>rfl
   rw[e];have aU:∀(d:Option Tmp) (v:Value) (aW:World),wpOpsIn (ew none) 0 P bD (fun e a w=>Q e a.defers w) l (a.put d v) aW->wpOpsIn (ew none) 0 P bD (fun e a w=>Q e a.defers w) l (b.put d v) aW:=fun d v aW hh=>bg _ _ aW (fun t ht=>Zq al (ah t ht)) (by simp_all[HT]) (by simp_all[LG]) hh
   generalize (o.semAt (ew none).round a.eval).run P w=r at h2;cases r with
   | ok x aW=>
    cases x<;>simp only[Oper.uponIn]at h2⊢ <;>
     first
      | exact aU _ _ _ h2
      | exact⟨h2.1,CallsIn.mono h2.2 (fun e aoZ he=>by grind)⟩
      | exact⟨h2.1,RowsIn.mono h2.2 (fun _ _ he=>aU _ _ _ he)⟩
      | exact⟨h2.1,RoundIn.mono h2.2 (fun e aoZ he=>by grind)⟩
      |(rename_i d;exact bg ({a with defers:=d::a.defers}.put o.dst undef) ({b with defers:=d::b.defers}.put o.dst undef) aW (fun t ht=>Zq (a:={a with defers:=d::a.defers}) (b:={b with defers:=d::b.defers}) al (ah t ht)) (by simp_all[HT]) (by simp_all[LG]) h2)
      | exact h2
   | halt x aW=>cases x<;>simp only[Oper.uponIn]at h2⊢ <;> first|exact h2|simp_all
end Go.Ab
namespace Go.Ab
open Go
section
variable{P:Program}[h7]{B:Nat}{bo:hQ}
noncomputable def ao0(P:Program)(i:Tmp)(bD:Array Oper):Bool->Bool
 | true=>(s6 P bD.toList).any fun o=>o.1.dst==some i
 | false=>bD.toList.any fun o=>o.dst==some i
noncomputable def qU(P:Program)(i:Tmp):Code->Bool
 | .region _ bD d=>ao0 P i bD d
 | .seq a b=>qU P i a||qU P i b
 | .cond _ a b=>qU P i a||qU P i b
 | _=>false
theorem Q3(i:Nat)(all:List Oper):∀(l:List Oper) (T:List Value) (H:au) (a1:el),(∀o∈l,o.dst≠some i)->jQ P bo all l T H=some a1->cf a1.T i=cf T i
 | [],T,H,a1,_,U=>by cases U;rfl
 | o::l,T,H,a1,aO,U=>by
  have U:gW P bo o ((iT all o.guard).f T) T H (jQ P bo all l)=some a1:=U;have h1:=aO o (.head _);have h2:∀x∈l,x.dst≠some i:=fun x ao=>aO x (mem_cons_of_mem _ ao)
  unfold gW at U;split at U;split at U;rw[Q3 i all l _ _ _ h2 U,AQ h1];cases U;rw[Q3 i all l _ _ _ h2 U,AQ h1]
theorem Q4(all:List Oper):∀(l:List (Oper×nD)) (T:List Value) (H:au) (dI:List mD) (a1:el),qE P bo all l T H dI=some a1->a1.T.length=T.length/\a1.c6=.normal
 | [],T,H,dI,a1,U=>by cases U;exact⟨rfl,rfl⟩
 | o::l,T,H,dI,a1,U=>by have U:so P bo o.1 o.2 ((iT all o.1.guard).f T) T H dI (qE P bo all l)=some a1:=U;unfold so at U;split at U;split at U;split at U;obtain⟨h1,h2⟩:=Q4 all l _ _ _ _ U;exact⟨by rw[h1,HM],h2⟩;cases U;cases U;obtain⟨h1,h2⟩:=Q4 all l _ _ _ _ U;exact⟨by rw[h1,HM],h2⟩
theorem ao1(dv:Bool):∀(c:Code),lZ c=true->∀(T:List Value) (H:au) (a1:el),(dN P dv c).f bo T H=some a1->a1.T.length=T.length:=by
 intro c;induction c with
 | skip=>intro _ T H a1 U;cases U;rfl
 | ret=>intro _ T H a1 U;cases U;rfl
 | region id bD d=>
  intro _ T H a1 U;cases d with
  | true=>
   have U:o4 P bo bD.toList T H=some a1:=U
   grind[o4,Q4]
  | false=>exact HN _ _ _ _ _ U
 | seq a b wW nn=>
  intro bJ T H a1 U;have bJ:(lZ a&&lZ b)=true:=bJ;rw[Bool.and_eq_true]at bJ
  grind[dN,th]
 | cond c a b wW nn=>
  intro bJ T H a1 U;have bJ:(lZ a&&lZ b)=true:=bJ;rw[Bool.and_eq_true]at bJ;have U:pH bo ((ek c).g T) (dN P dv a) (dN P dv b) T H=some a1:=U;unfold pH at U
  grind
 | _=>intro bJ;cases bJ
theorem HU(dv:Bool)(i:Tmp):∀(c:Code),lZ c=true->qU P i c=false->∀(T:List Value) (H:au) (a1:el),(dN P dv c).f bo T H=some a1->cf a1.T i=cf T i:=by
 intro c;induction c with
 | skip=>intro _ _ T H a1 U;cases U;rfl
 | ret=>intro _ _ T H a1 U;cases U;rfl
 | region id bD d=>
  intro _ aO T H a1 U;cases d with
  | true=>
   have U:o4 P bo bD.toList T H=some a1:=U;have aO:((s6 P bD.toList).any fun o=>o.1.dst==some i)=false:=aO
   grind[o4,Lx]
  | false=>
   have aO:(bD.toList.any fun o=>o.dst==some i)=false:=aO;refine Q3 i _ _ _ _ _ (fun o bM h=>?_) U
   grind
 | seq a b wW nn=>
  intro bJ aO T H a1 U;have bJ:(lZ a&&lZ b)=true:=bJ;have aO:(qU P i a||qU P i b)=false:=aO;rw[Bool.and_eq_true]at bJ
  grind[dN,th]
 | cond c a b wW nn=>
  intro bJ aO T H a1 U;have bJ:(lZ a&&lZ b)=true:=bJ;have aO:(qU P i a||qU P i b)=false:=aO;rw[Bool.and_eq_true]at bJ;rw[Bool.or_eq_false_iff]at aO;have U:pH bo ((ek c).g T) (dN P dv a) (dN P dv b) T H=some a1:=U;unfold pH at U
  grind
 | _=>intro bJ;cases bJ
theorem Q6{σ:c8}{h:Nat->Option Obj}{H:au}{w aW:World}(k:hK P B σ h H w)(ak:RowKit.Below w.heap.size w aW):fW B σ h H w σ h H aW:=
 ⟨⟨k.gb.below ak,Nat.le_refl _,fun _ _=>rfl,fun _ _ h=>h,ak.os,ak.tape,ak.output,ak.size,fun c aB _=>ak.block c aB,fun _ h _=>h⟩,k.sub,fun id b ak=>by rwa [EG]at ak,gJ.refl H⟩
def qV(k:Nat)(T:List Value):Prop:=cf T k=undef/\cf T (k+1)=undef/\k+1<T.length
def ao2(P:Program)(bo:hQ)(s:Nat)(jU:Code)(B:Nat)(σ:c8)(h:Nat->Option Obj)(H:au)(w:World)(ds:List Deferred)(T:List Value)(a1:el):Exit->Act->World->Prop:=
 fun e cH aW=>∃u pv τ h1 bB ft,e=.panic [{v:=.iface u pv,recovered:=false}]/\cH.defers=ds/\fW B σ h H w τ h1 bB aW/\gJ bB a1.H/\cf ft s=cf T s/\ft.length=T.length/\(dN P true jU).f bo ft bB=some a1
def Zr(P:Program)(bo:hQ)(s:Nat)(jU:Code)(B:Nat)(σ:c8)(h:Nat->Option Obj)(H:au)(w:World)(ds:List Deferred)(T:List Value)(a1:el):Exit->Act->World->Prop:=
 fun e cH aW=>QN B σ h H w ds a1 e cH aW\/ao2 P bo s jU B σ h H w ds T a1 e cH aW
def nM(P:Program)(bo:hQ)(s k:Nat)(jU hX C:Code):Prop:=
 ∀(T:List Value) (H:au) (a1:el),qV k T->H.dS<=H.next->(dN P true hX).f bo T H=some a1->(a1.c6=.normal->qV k a1.T/\cf a1.T s=cf T s/\a1.T.length=T.length)/\
  ∀(B:Nat) (σ:c8) (h:Nat->Option Obj) (w:World) (a:Act),hK P B σ h H w->gN σ H.next a1.H.next->bL σ T a.tmps.toList->C.wpIn (ew none) 0 P (Zr P bo s jU B σ h H w a.defers T a1) a w
variable{s k:Nat}{jU:Code}
theorem nM.plain(dW:cz P)(bI:iP P bo){A:Code}(bJ:lZ A=true)(al:qU P s A=false)(aJ:qU P k A=false)(h1:qU P (k+1) A=false):nM P bo s k jU A A:=by intro T H a1 eP hf U;refine⟨fun _=>?_,fun B σ h w a eE cW bk=>wpIn_mono (CS dW bI true A bJ T H a1 U σ h w a none eE cW bk) fun e cH aW h=>.inl h⟩;have aD:=ao1 true A bJ T H a1 U;exact⟨⟨(HU true k A bJ aJ _ _ _ U).trans eP.1,(HU true (k+1) A bJ h1 _ _ _ U).trans eP.2.1,by rw[aD];exact eP.2.2⟩,HU true s A bJ al _ _ _ U,aD⟩
theorem nM.cond{c:Operand}{bR x eW y:Code}(ao:nM P bo s k jU bR x)(ba:nM P bo s k jU eW y):nM P bo s k jU (.cond c bR eW) (.cond c x y):=by
 intro T H a1 eP hf U;have U:pH bo ((ek c).g T) (dN P true bR) (dN P true eW) T H=some a1:=U;unfold pH at U;split at U;rename_i t hv;cases t with
 | true=>
  obtain⟨h1,h2⟩:=ao T H a1 eP hf U
  grind[wpIn_cond,KH]
 | false=>
  obtain⟨h1,h2⟩:=ba T H a1 eP hf U
  grind[wpIn_cond,KH]
 grind
theorem nM.seq(bI:iP P bo)(aX:∀T H o,(dN P true jU).f bo T H=some o->o.c6=.ret){hT A hX C:Code}(hA:nM P bo s k jU hT A)(ka:nM P bo s k jU hX C):nM P bo s k jU (.seq hT hX) (.seq A C):=by
 intro T H a1 eP hf U;have U:nE ((dN P true hT).f bo T H) (fun T H=>(dN P true hX).f bo T H)=some a1:=U;obtain⟨b3,h1,h2⟩:=th U;have fw:=mi bI true hT _ _ _ hf h1;obtain⟨cU,cR⟩:=hA T H b3 eP hf h1;rcases h2 with⟨ao,h2⟩|⟨ao,rfl⟩
 obtain⟨cg,cd,g3⟩:=cU ao;have EA:=fw.wf hf;have dV:=mi bI true hX _ _ _ EA h2;obtain⟨dg,cr⟩:=ka b3.T b3.H a1 cg EA h2;refine⟨fun aU=>?_,fun B σ h w a eE cW bk=>?_⟩
 simp_all
 refine wpIn_seq (wpIn_mono (cR B σ h w a eE (cW.left dV.dO) bk) ?_);rintro e cH aW (⟨bP,q2,τ,aT,cS,eI⟩|⟨u,pv,τ,qW,bB,ft,dx,bp,eQ,c1,fK,gQ,dX⟩);rw[ao]at bP;subst bP;refine wpIn_mono (cr B τ aT aW cH (eE.next eI) (cW.right eI.hD) cS) ?_;rintro e ao3 fb (⟨r1,r2,jB,ql,r3,ti⟩|⟨u,pv,jB,qW,bB,ft,dx,bp,eQ,c1,fK,gQ,dX⟩);exact .inl ⟨r1,r2.trans q2,jB,ql,r3,eI.trans eE (cW.left dV.dO) ti⟩;exact .inr ⟨u,pv,jB,qW,bB,ft,dx,bp.trans q2,eI.trans eE (cW.left dV.dO) eQ,c1,fK.trans cd,gQ.trans g3,dX⟩
 grind
 refine⟨fun aU=>absurd aU ao,fun B σ h w a eE cW bk=>wpIn_seq (wpIn_mono (cR B σ h w a eE cW bk) ?_)⟩;intro e cH aW bY;cases e with
 | normal=>
  rcases bY with⟨bP,_⟩|⟨_,_,_,_,_,_,dx,_⟩
  cases he:a1.c6 with
  | normal=>simp_all
  | exit id=>rw[he]at bP;cases bP
  | ret=>rw[he]at bP;cases bP
  grind
 | exit id=>exact bY
 | goto l=>exact bY
 | ret=>exact bY
 | panic yZ=>exact bY
 | outgrown=>exact bY
def qX(P:Program)(bo:hQ)(s k:Nat)(jU hX C:Code):Prop:=
 ∀(T:List Value) (H:au) (a1:el),qV k T->H.dS<=H.next->(dN P true hX).f bo T H=some a1->
  ∀(B:Nat) (σ:c8) (h:Nat->Option Obj) (w:World) (a:Act),hK P B σ h H w->gN σ H.next a1.H.next->bL σ T a.tmps.toList->C.wpIn (ew none) 0 P (Zr P bo s jU B σ h H w a.defers T a1) a w
theorem nM.e{hX C:Code}(h:nM P bo s k jU hX C):qX P bo s k jU hX C:=fun T H a1 eP hf U=>(h T H a1 eP hf U).2
theorem qX.plain(dW:cz P)(bI:iP P bo){A:Code}(bJ:lZ A=true):qX P bo s k jU A A:=fun T H a1 eP hf U B σ h w a eE cW bk=>wpIn_mono (CS dW bI true A bJ T H a1 U σ h w a none eE cW bk) fun e cH aW h=>.inl h
theorem qX.seq(bI:iP P bo)(aX:∀T H o,(dN P true jU).f bo T H=some o->o.c6=.ret){hT A hX C:Code}(hA:nM P bo s k jU hT A)(ka:qX P bo s k jU hX C):qX P bo s k jU (.seq hT hX) (.seq A C):=by
 intro T H a1 eP hf U;have U:nE ((dN P true hT).f bo T H) (fun T H=>(dN P true hX).f bo T H)=some a1:=U;obtain⟨b3,h1,h2⟩:=th U;have fw:=mi bI true hT _ _ _ hf h1;obtain⟨cU,cR⟩:=hA T H b3 eP hf h1;rcases h2 with⟨ao,h2⟩|⟨ao,rfl⟩
 obtain⟨cg,cd,g3⟩:=cU ao;have EA:=fw.wf hf;have dV:=mi bI true hX _ _ _ EA h2;have cr:=ka b3.T b3.H a1 cg EA h2;intro B σ h w a eE cW bk;refine wpIn_seq (wpIn_mono (cR B σ h w a eE (cW.left dV.dO) bk) ?_);rintro e cH aW (⟨bP,q2,τ,aT,cS,eI⟩|⟨u,pv,τ,qW,bB,ft,dx,bp,eQ,c1,fK,gQ,dX⟩);rw[ao]at bP;subst bP;refine wpIn_mono (cr B τ aT aW cH (eE.next eI) (cW.right eI.hD) cS) ?_;rintro e ao3 fb (⟨r1,r2,jB,ql,r3,ti⟩|⟨u,pv,jB,qW,bB,ft,dx,bp,eQ,c1,fK,gQ,dX⟩);exact .inl ⟨r1,r2.trans q2,jB,ql,r3,eI.trans eE (cW.left dV.dO) ti⟩;exact .inr ⟨u,pv,jB,qW,bB,ft,dx,bp.trans q2,eI.trans eE (cW.left dV.dO) eQ,c1,fK.trans cd,gQ.trans g3,dX⟩
 grind
 intro B σ h w a eE cW bk;refine wpIn_seq (wpIn_mono (cR B σ h w a eE cW bk) ?_);intro e cH aW bY;cases e with
 | normal=>
  rcases bY with⟨bP,_⟩|⟨_,_,_,_,_,_,dx,_⟩
  cases he:a1.c6 with
  | normal=>simp_all
  | exit id=>rw[he]at bP;cases bP
  | ret=>rw[he]at bP;cases bP
  grind
 | exit id=>exact bY
 | goto l=>exact bY
 | ret=>exact bY
 | panic yZ=>exact bY
 | outgrown=>exact bY
end
end Go.Ab
namespace Go.Ab
open Go
section
variable{P:Program}[h7]{B:Nat}{bo:hQ}{s k x:Nat}{jU:Code}{a t AV:TypeId}{jn:TypeDesc}
theorem Zs{o:Oper}{y:Nat}(bM:o.op=.typeAssert (.tmp y) t a false)(nq:P.underlying P.rt.typeAssertionError=some (.pointer AV))(bn:P.underlying a=some jn)(aU:∀ms,jn≠.interface ms){A:Act}{w:World}
  (ao:A.eval (.tmp y)=.nilIface\/∃u v,A.eval (.tmp y)=.iface u v/\u≠a) {next:Act->World->Prop} {Q:Exit->Act->World->Prop} (bY:∀u pv il,Q (.panic [{v:=.iface u pv,recovered:=false}]) A (w.alloc il)):o.wpIn (ew none) 0 P A w next Q:=by
 refine⟨fun _ _=>trivial,?_⟩;obtain⟨pv,il,U⟩:=aoW (t:=t) (w:=w) nq bn aU ao;have e:(o.semAt (ew none).round A.eval).run P w=.halt (.panic (.iface P.rt.typeAssertionError pv)) (w.alloc il):=by simp_all[Oper.semAt_none,execOp]
 rw[e];exact bY _ _ _
def Fz(a:TypeId)(v:Value):Prop:=v=.nilIface\/∃u z,v=.iface u z/\u≠a
theorem Fz.rel{σ:c8}{v aQ:Value}(h:Fz a v)(hv:cq σ v aQ):Fz a aQ:=by
 rcases h with rfl|⟨u,z,rfl,bf⟩
 cases hv;exact .inl rfl;cases hv;exact .inr ⟨_,_,rfl,bf⟩
def rZ(P:Program)(bo:hQ)(s k x:Nat)(a tt:TypeId)(A:Code):Prop:=
 ∀(B:Nat) (σ:c8) (h:Nat->Option Obj) (T:List Value) (H:au) (w:World) (gg:Act),hK P B σ h H w->bL σ T gg.tmps.toList->k+1<T.length->Fz a (cf T x)->(∃v,(oI P tt).f (cf T s) H=some (v,H))->∀(Q:Exit->Act->World->Prop),
  (∀cH aW u pv τ aT,cH.defers=gg.defers->fW B σ h H w τ aT H aW->Q (.panic [{v:=.iface u pv,recovered:=false}]) cH aW)->A.wpIn (ew none) 0 P Q gg w
theorem rZ.seq{tt:TypeId}{A C:Code}(h:rZ P bo s k x a tt A):rZ P bo s k x a tt (.seq A C):=by intro B σ aJ T H w gg dZ bk ah bM aD Q bY;exact wpIn_seq (h B σ aJ T H w gg dZ bk ah bM aD _ fun cH aW u pv τ aT h1 h2=>bY cH aW u pv τ aT h1 h2)
theorem HV{σ:c8}{n:Nat}:gN σ n n:=fun i h1 h2=>absurd h2 (Nat.not_lt.2 h1)
theorem LH{o:Oper}{bD:Array Oper}{A:Act}(h:o.guard=none):Region.wanted o (yielded bD A.tmps)=true:=by grind[Region.wanted]
theorem Zt{T:List Value}{H:au}{o:Oper}(bM:o.op=.move (.tmp x)):(iu P o.op).f bo T H=some (cf T x,H):=by rw[bM];rfl
theorem LI{T:List Value}{H:au}{o:Oper}{tt:TypeId}(bM:o.op=.load tt (.tmp s)):(iu P o.op).f bo T H=(oI P tt).f (cf T s) H:=by rw[bM];rfl
theorem yd{T:List Value}{i:Nat}{v:Value}(h:i<T.length):cf (hs T i v) i=v:=by simp_all[pJ,pI]
theorem LJ{T:List Value}{i j:Nat}{v:Value}(h:i≠j):cf (hs T i v) j=cf T j:=AQ (d:=some i) (fun e=>h (by grind))
theorem bL.size{σ:c8}{T:List Value}{A:Act}(h:bL σ T A.tmps.toList):A.tmps.size=T.length:=by have:=h.length;simp_all
theorem rZ.Zu(dW:cz P)(bI:iP P bo){tt:TypeId}{id:Nat}{bD:Array Oper}{m o:Oper}{y:Nat}(nq:P.underlying P.rt.typeAssertionError=some (.pointer AV))(bn:P.underlying a=some jn)(aU:∀ms,jn≠.interface ms)
  (aJ:bD[0]?=some m) (h1:bD[1]?=some o) (hm:m.op=.move (.tmp x)) (Zv:m.dst=some y) (Kb:m.guard=none) (bM:o.op=.typeAssert (.tmp y) t a false) (AT:o.guard=none) (ba:y<=k):rZ P bo s k x a tt (.region id bD false):=by
 intro B σ h T H w gg dZ bk ah ye aD Q bY;refine wpIn_region ?_;obtain⟨n,fc⟩:∃n,bD.size=n+2:=by
  have:1<bD.size:=by grind
  exact⟨bD.size-2,by omega⟩
 rw[fc,range_eq_range',List.range'_succ,List.range'_succ];simp only[wpOpsIn,aJ,Nat.zero_add];rw[if_pos (LH Kb)];refine Kq dW bI m dZ HV bk (Zt hm) ?_;intro aQ τ aT aW hv st;simp only[h1];rw[if_pos (LH AT)];have JI:gg.tmps.size=T.length:=bL.size bk;have gd:=dZ.next st;refine Zs bM nq bn aU ?_ ?_;have vz:=Fy (a:=gg) (i:=y) (v:=aQ) (show @LT.lt Nat _ y gg.tmps.size by omega);rw[Zv,vz];exact ye.rel hv;intro u pv il;exact bY _ _ u pv τ aT LG (st.trans dZ HV (Q6 gd (Zp _ _)))
noncomputable def LK(bD:Array Oper)(p m:Nat)(harm:List Nat):Nat->Array Bool->Bool
 | 0,_=>false
 | n+1,b8=>(! (Region.ready .any bD b8).isEmpty)&&(Region.ready .any bD b8).all fun i=>if i==p then b8.getD m false else harm.contains i&&LK bD p m harm n (b8.setIfInBounds i true)
theorem Zw(dW:cz P)(bI:iP P bo){tt:TypeId}{bD:Array Oper}{o:Oper}{y:Nat}{p m:Nat}{harm:List Nat}(nq:P.underlying P.rt.typeAssertionError=some (.pointer AV))(bn:P.underlying a=some jn)(aU:∀ms,jn≠.interface ms)
  (h1:bD[p]?=some o) (bM:o.op=.typeAssert (.tmp y) t a false) (AT:o.guard=none) (ba:y<=k)
  (hh:∀i∈harm,∃(dK:Oper) (d:Nat),bD[i]?=some dK/\dK.guard=none/\dK.dst=some d/\d≠s/\d≠x/\((dK.op=.move (.tmp x)/\d=y/\i=m)\/(dK.op=.load tt (.tmp s)/\d≠y/\i≠m)))
  {Q:Exit->Act->World->Prop} {mh:List Value} {H:au} (ye:Fz a (cf mh x)) (aD:∃v,(oI P tt).f (cf mh s) H=some (v,H)) (ah:k+1<mh.length):
  ∀(mM:Nat) (b8:Array Bool) (T:List Value) (B:Nat) (σ:c8) (h:Nat->Option Obj) (w:World) (gg:Act),LK bD p m harm mM b8=true->hK P B σ h H w->bL σ T gg.tmps.toList->T.length=mh.length->cf T s=cf mh s->cf T x=cf mh x->(b8.getD m false=true->cf T y=cf mh x)->
   (∀cH aW u pv τ aT,cH.defers=gg.defers->fW B σ h H w τ aT H aW->Q (.panic [{v:=.iface u pv,recovered:=false}]) cH aW)->wpAnyIn (ew none) 0 P .any bD Q mM b8 gg w
 | 0,b8,T,B,σ,h,w,gg,ak,_,_,_,_,_,_,_=>by cases ak
 | mM+1,b8,T,B,σ,h,w,gg,ak,dZ,bk,hlen,al,ao,hm,bY=>by
  unfold LK at ak;rw[Bool.and_eq_true]at ak;obtain⟨jo,mb⟩:=ak;refine⟨fun aJ=>(by simp_all),fun i an=>?_⟩;have ak:=all_eq_true.1 mb i an;have JI:gg.tmps.size=T.length:=bL.size bk;by_cases hip:i=p;subst hip;rw[if_pos (by simp)]at ak;unfold wpOpIn;simp only[h1];rw[if_pos (LH AT)];refine Zs bM nq bn aU ?_ ?_;have:=(QQ bk y);rw[hm ak]at this;exact ye.rel this;intro u pv il;exact bY _ _ u pv σ h rfl (Q6 dZ (Zp _ _));rw[if_neg (by simp_all),Bool.and_eq_true]at ak;obtain⟨dK,d,cg,cd,g3,g4,g5,lh⟩:=hh i (by simp_all);unfold wpOpIn;simp only[cg];rw[if_pos (LH cd)];obtain⟨v,hv,ao4⟩:∃v,(iu P dK.op).f bo T H=some (v,H)/\(i=m->v=cf mh x):=by
   rcases lh with⟨a7,_,_⟩|⟨a7,_,ei⟩
   exact⟨_,Zt a7,fun _=>ao⟩;obtain⟨v,hv⟩:=aD
   grind[LI]
  refine Kq dW bI dK dZ HV bk hv ?_;intro aQ τ aT aW ao5 st;rw[g3];obtain⟨dx,bp⟩:=xU (σ:=τ) (bk.mono st.hD.mono) (some d) ao5;refine Zw dW bI nq bn aU h1 bM AT ba hh ye aD ah mM _ (iO T (some d) v) B τ aT aW _ ak.2 (dZ.next st) dx (by simp_all[HM]) (by simp_all[AQ]) (by simp_all[AQ]) ?_ ?_;intro LL;by_cases him:i=m;rw[ao4 him];have ao6:d=y:=by omega
  subst ao6;exact yd (by omega)
  simp_all[AQ]
  intro cH fb u pv jB h2 a7 bt;exact bY cH fb u pv jB h2 (a7.trans bp) (st.trans dZ HV bt)
theorem ao7(w:World)(n:Nat):RowKit.Below w.heap.size w {w with drawn:=n}:=⟨rfl,rfl,rfl,Nat.le_refl _,fun _ _=>rfl⟩
theorem rZ.any(dW:cz P)(bI:iP P bo){tt:TypeId}{id:Nat}{bD:Array Oper}{o:Oper}{y:Nat}{p m:Nat}{harm:List Nat}(nq:P.underlying P.rt.typeAssertionError=some (.pointer AV))(bn:P.underlying a=some jn)(aU:∀ms,jn≠.interface ms)
  (h1:bD[p]?=some o) (bM:o.op=.typeAssert (.tmp y) t a false) (AT:o.guard=none) (ba:y<=k)
  (hh:∀i∈harm,∃(dK:Oper) (d:Nat),bD[i]?=some dK/\dK.guard=none/\dK.dst=some d/\d≠s/\d≠x/\((dK.op=.move (.tmp x)/\d=y/\i=m)\/(dK.op=.load tt (.tmp s)/\d≠y/\i≠m)))
  (ak:LK bD p m harm bD.size (Array.replicate bD.size false)=true):rZ P bo s k x a tt (.region id bD true):=by
 intro B σ h T H w gg dZ bk ah ye aD Q bY;refine wpIn_region_any dW.mixed ?_;have st:=Q6 dZ (ao7 w (w.drawn+1));refine Zw dW bI nq bn aU h1 bM AT ba hh ye aD ah _ _ T B σ h _ gg ak (dZ.next st) bk rfl rfl rfl ?_ ?_;intro LL;rw[Array.getD_eq_getD_getElem?,Array.getElem?_replicate]at LL
 grind
 intro cH fb u pv τ h2 a7 bt;exact bY cH fb u pv τ h2 a7 (st.trans dZ HV bt)
theorem ao8{T:List Value}{k:Nat}{ej ec:Value}(h:qV k T):hs (hs (hs (hs T k ej) (k+1) ec) k undef) (k+1) undef=T:=by
 obtain⟨h1,h2,h3⟩:=h;rw[pI,getD_eq_getElem?_getD]at h1 h2;rw[List.getElem?_eq_getElem (by omega)]at h1;rw[List.getElem?_eq_getElem (by omega)]at h2;simp only[Option.getD_some]at h1 h2;simp only[pJ];refine ext_getElem (by simp) fun i Ck tb=>?_
 grind
theorem Zx{o:Oper}{mL ld:Code}{T:List Value}{H:au}{a1:el}(eP:qV k T)(bn:P.underlying a=some jn)(aU:∀ms,jn≠.interface ms)(U:(dN P true (zn o x t a k mL ld)).f bo T H=some a1):
  ((dN P true mL).f bo T H=some a1)\/(Fz a (cf T x)/\∃ft,(∀i,i≠k->i≠k+1->cf ft i=cf T i)/\ft.length=T.length/\(dN P true ld).f bo ft H=some a1):=by
 obtain⟨h1,h2,h3⟩:=eP;obtain⟨ll,zp,aFM,U⟩:=CT (x:=dN P true (.region 0 #[{o with dst:=some k,op:=.typeAssert (.tmp x) t a true,guard:=none},{o with dst:=some (k+1),op:=.extract (.tmp k) 1,guard:=none}] false)) (y:=dN P true (.cond (.tmp (k+1)) (.seq (.region 0 #[{o with dst:=some k,op:=.assign (.const (.tuple #[])),guard:=none},{o with dst:=some (k+1),op:=.assign (.const (.tuple #[])),guard:=none}] false) mL) ld)) U (fun b3 Zy=>by
  have Zy:gW P bo _ true T H (fun T H=>gW P bo _ true T H (fun T H=>some ⟨.normal,T,H⟩))=some b3:=Zy
  grind[gW])
 have zp:gW P bo _ true T H (fun T H=>gW P bo {o with dst:=some (k+1),op:=.extract (.tmp k) 1,guard:=none} true T H (fun T H=>some ⟨.normal,T,H⟩))=some ll:=zp;unfold gW at zp;simp only at zp;split at zp
 case h_2=>cases zp
 case h_1 v bB jJ=>
 split at zp
 case h_2=>cases zp
 case h_1 b cJ hl=>
 cases zp;have jJ:fZ H ((BZ P a true).f (cf T x))=some (v,bB):=jJ;have ao9:(BZ P a true).f=ng a (iL P a):=by simp_all[BZ]
 rw[ao9]at jJ;have LM:∀(z:Value) (c:Bool),v=.tuple #[z,.bool c]->b=.bool c/\cJ=bB:=by
  intro z c hv;subst hv;have hl:(match cf (hs T k (.tuple #[z,.bool c])) k with|.tuple vs=>fZ bB (o1 vs.toList 1)|_=>none)=some (b,cJ):=hl;rw[yd (by omega)]at hl;have hl:some (Value.bool c,bB)=some (b,cJ):=hl
  simp_all
 have jC:pH bo (cf (hs (hs T k v) (k+1) b) (k+1)) (dN P true (.seq (.region 0 #[{o with dst:=some k,op:=.assign (.const (.tuple #[])),guard:=none},{o with dst:=some (k+1),op:=.assign (.const (.tuple #[])),guard:=none}] false) mL)) (dN P true ld) (hs (hs T k v) (k+1) b) cJ=some a1:=U;rw[yd (by simp_all[pJ])]at jC;clear U;have eU:∀z,v=.tuple #[z,.bool false]->bB=H->∃ft,(∀i,i≠k->i≠k+1->cf ft i=cf T i)/\ft.length=T.length/\(dN P true ld).f bo ft H=some a1:=by intro z hv uk;obtain⟨rfl,rfl⟩:=LM _ _ hv;subst uk;exact⟨_,fun i a7 bt=>by simp_all[LJ,Ne.symm],by simp_all[pJ],jC⟩
 have dU:∀(c:Option Value),fZ H (c.map fun z=>Value.tuple #[z,.bool false])=some (v,bB)->∃z,v=.tuple #[z,.bool false]/\bB=H:=by
  intro c aB;cases c with
  | none=>cases aB
  | some z=>cases aB;simp_all
 cases ao:cf T x with
 | nilIface=>rw[ao]at jJ;obtain⟨z,hv,uk⟩:=dU _ jJ;exact .inr ⟨.inl rfl,eU z hv uk⟩
 | iface u z=>
  rw[ao]at jJ;have jJ:fZ H (if Nat.beq u a then some (.tuple #[z,.bool true])else(iL P a).map fun z=>.tuple #[z,.bool false])=some (v,bB):=jJ;by_cases bf:u=a
  ·subst bf;rw[if_pos (beq_refl u)]at jJ;left;have jJ:some (Value.tuple #[z,.bool true],H)=some (v,bB):=jJ;cases jJ;obtain⟨rfl,rfl⟩:=LM _ _ rfl;have Zz:(dN P true mL).f bo (hs (hs (hs (hs T k (.tuple #[z,.bool true])) (k+1) (.bool true)) k undef) (k+1) undef) cJ=some a1:=jC;rw[ao8 ⟨h1,h2,h3⟩]at Zz;exact Zz
  ·rw[if_neg (by simp_all)]at jJ;obtain⟨OK,hv,uk⟩:=dU _ jJ;exact .inr ⟨.inr ⟨u,z,rfl,bf⟩,eU OK hv uk⟩
 | _=>rw[ao]at jJ;cases jJ
theorem nM.guard(dW:cz P)(bI:iP P bo){tt:TypeId}{o:Oper}{A:Code}(aX:∀T H o,(dN P true jU).f bo T H=some o->o.c6=.ret)(AW:∀T H o,(dN P true jU).f bo T H=some o->∃v,(oI P tt).f (cf T s) H=some (v,H))
  (bn:P.underlying a=some jn) (aU:∀ms,jn≠.interface ms) (bJ:lZ A=true) (al:qU P s A=false) (aJ:qU P k A=false) (h1:qU P (k+1) A=false) (apa:s<k) (Q7:rZ P bo s k x a tt A):nM P bo s k jU (zn o x t a k A jU) A:=by
 intro T H a1 eP hf U;rcases Zx eP bn aU U with ba|⟨ye,ft,Aq,hlen,eU⟩
 exact nM.plain dW bI bJ al aJ h1 T H a1 eP hf ba;refine⟨fun ao=>(by grind),fun B σ h w gg eE cW bk=>?_⟩;obtain⟨v,hv⟩:=AW _ _ _ eU;have Cl:cf ft s=cf T s:=Aq s (by omega) (by omega);refine Q7 B σ h T H w gg eE bk eP.2.2 ye ⟨v,by simp_all⟩ _ ?_;intro cH aW u pv τ aT a7 bt;exact .inr ⟨u,pv,τ,aT,H,ft,rfl,a7,bt,mi bI true jU _ _ _ hf eU,Cl,hlen,eU⟩
theorem qX.guard(dW:cz P)(bI:iP P bo){tt:TypeId}{o:Oper}{A:Code}(aX:∀T H o,(dN P true jU).f bo T H=some o->o.c6=.ret)(AW:∀T H o,(dN P true jU).f bo T H=some o->∃v,(oI P tt).f (cf T s) H=some (v,H))
  (bn:P.underlying a=some jn) (aU:∀ms,jn≠.interface ms) (bJ:lZ A=true) (apa:s<k) (Q7:rZ P bo s k x a tt A):qX P bo s k jU (zn o x t a k A jU) A:=by
 intro T H a1 eP hf U;rcases Zx eP bn aU U with ba|⟨ye,ft,Aq,hlen,eU⟩
 exact qX.plain dW bI bJ T H a1 eP hf ba;intro B σ h w gg eE cW bk;obtain⟨v,hv⟩:=AW _ _ _ eU;have Cl:cf ft s=cf T s:=Aq s (by omega) (by omega);refine Q7 B σ h T H w gg eE bk eP.2.2 ye ⟨v,by simp_all⟩ _ ?_;intro cH aW u pv τ aT a7 bt;exact .inr ⟨u,pv,τ,aT,H,ft,rfl,a7,bt,mi bI true jU _ _ _ hf eU,Cl,hlen,eU⟩
end
end Go.Ab
namespace Go.Ab
open Go
section
variable{P:Program}[h7]{bo:hQ}
structure CV (P:Program) (tt hY f cN:Nat) (kv:Value) (s b c d:Nat) (l:List Oper):Prop where
 c6:∃b3 dL hJ fL:Oper,l=[b3,dL,hJ,fL]/\(b3.op=.load tt (.tmp s)/\b3.dst=some b/\b3.guard=none)/\(dL.op=.nilCheck (.tmp b)/\dL.dst=some c/\dL.guard=none)/\(hJ.op=.fieldAddr hY (.tmp c) f/\hJ.dst=some d/\hJ.guard=none)/\(fL.op=.store cN (.tmp d) (.const kv)/\fL.dst=none/\fL.guard=none)
 kv:wt P (.const kv)=true
noncomputable def AD(P:Program)(tt hY f cN:Nat)(kv v0:Value)(H:au):Option au:=match (oI P tt).f v0 H with
 | some (ej,_)=>match pG ej with
  | some ec=>match (Aa P hY f).f ec with
   | some v3=>match hk P cN with
    | some n=>match bx n v3 kv H with
     | some (_,ab)=>some ab
     | none=>none
    | none=>none
   | none=>none
  | none=>none
 | none=>none
theorem Q8{t:TypeId}{a v:Value}{H ab:au}(U:(oI P t).f a H=some (v,ab)):ab=H:=by
 obtain⟨id,off,rfl⟩:=XT U;unfold oI at U;split at U;rename_i n _ _;have U:(match s0 H id off n with|some l=>some (Value.agg l.toArray,H)|none=>none)=some (v,ab):=U
 grind
 have U:fZ H (B1 H id off)=some (v,ab):=U;unfold fZ at U
 grind
 grind
section
variable{tt hY f cN:Nat}{kv:Value}{s b c d:Nat}{l:List Oper}
theorem ZA{o:Oper}(ah:wt P (.const kv)=true)(bM:o.op=.store cN (.tmp d) (.const kv)){T:List Value}{H:au}:(iu P o.op).f bo T H=match hk P cN with|some n=>bx n (cf T d) kv H|none=>none:=by
 rw[bM];have e:iu P (.store cN (.tmp d) (.const kv))=yL P (.store cN (.tmp d) (.const kv)):=by simp_all[iu,kh,wt,Op.operands]
 rw[e];show(match hk P cN with|some n=>(⟨fun T H=>bx n ((ek (.tmp d)).g T) ((ek (.const kv)).g T) H⟩:VQ)|none=>⟨fun _ _=>none⟩).f T H=_;cases hk P cN<;>rfl
theorem apb(h:CV P tt hY f cN kv s b c d l){T:List Value}{H:au}{a1:el}(ak:b<T.length)(aB:c<T.length)(aO:d<T.length)(U:jQ P bo l l T H=some a1):AD P tt hY f cN kv (cf T s) H=some a1.H:=by
 obtain⟨⟨b3,dL,hJ,fL,rfl,⟨cU,cR,a3⟩,⟨b1,b2,gE⟩,⟨dg,cr,fJ⟩,⟨d1,d2,d3⟩⟩,ah⟩:=h
 replace U:gW P bo b3 ((iT _ b3.guard).f T) T H (fun T H=>gW P bo dL ((iT _ dL.guard).f T) T H (fun T H=>gW P bo hJ ((iT _ hJ.guard).f T) T H (fun T H=>gW P bo fL ((iT _ fL.guard).f T) T H (fun T H=>some ⟨.normal,T,H⟩))))=some a1:=U
 rw[a3,gE,fJ,d3]at U
 replace U:gW P bo b3 true T H (fun T H=>gW P bo dL true T H (fun T H=>gW P bo hJ true T H (fun T H=>gW P bo fL true T H (fun T H=>some ⟨.normal,T,H⟩))))=some a1:=U
 unfold gW at U;simp only at U;rw[LI cU,cR,b2,cr,d2]at U;unfold AD;split at U
 case h_2=>cases U
 case h_1 ej bB h1=>
 obtain rfl:=Q8 h1;rw[h1];split at U
 case h_2=>cases U
 case h_1 ec cJ h2=>
 rw[b1]at h2;have h2:fZ bB (pG (cf (hs T b ej) b))=some (ec,cJ):=h2;rw[yd ak]at h2;simp only;cases aU:pG ej with
 | none=>rw[aU]at h2;cases h2
 | some fb=>
 rw[aU]at h2;cases h2;split at U
 case h_2=>cases U
 case h_1 v3 jr h3=>
 rw[dg]at h3;have h3:fZ bB ((Aa P hY f).f (cf (hs (hs T b ej) c ec) c))=some (v3,jr):=h3;rw[yd (by simp_all[pJ])]at h3;simp only;cases K8:(Aa P hY f).f ec with
 | none=>rw[K8]at h3;cases h3
 | some kz=>
 rw[K8]at h3;cases h3;split at U
 case h_2=>cases U
 case h_1 v4 vy aG=>
 rw[ZA ah d1]at aG;have aG:(match hk P cN with|some n=>bx n (cf (hs (hs (hs T b ej) c ec) d v3) d) kv bB|none=>none)=some (v4,vy):=aG
 grind[yd,pJ]
theorem apc(h:CV P tt hY f cN kv s b c d l){T:List Value}{H ab:au}(ak:b<T.length)(aB:c<T.length)(aO:d<T.length)(U:AD P tt hY f cN kv (cf T s) H=some ab):∃a1,jQ P bo l l T H=some a1/\a1.H=ab:=by
 obtain⟨⟨b3,dL,hJ,fL,rfl,⟨cU,cR,a3⟩,⟨b1,b2,gE⟩,⟨dg,cr,fJ⟩,⟨d1,d2,d3⟩⟩,ah⟩:=h;show∃a1,gW P bo b3 ((iT _ b3.guard).f T) T H (fun T H=>gW P bo dL ((iT _ dL.guard).f T) T H (fun T H=>gW P bo hJ ((iT _ hJ.guard).f T) T H (fun T H=>gW P bo fL ((iT _ fL.guard).f T) T H (fun T H=>some ⟨.normal,T,H⟩))))=some a1/\a1.H=ab;rw[a3,gE,fJ,d3];show∃a1,gW P bo b3 true T H (fun T H=>gW P bo dL true T H (fun T H=>gW P bo hJ true T H (fun T H=>gW P bo fL true T H (fun T H=>some ⟨.normal,T,H⟩))))=some a1/\a1.H=ab;unfold AD at U;split at U
 case h_2=>cases U
 case h_1 ej bB h1=>
 obtain rfl:=Q8 h1;split at U
 case h_2=>cases U
 case h_1 ec h2=>
 split at U
 case h_2=>cases U
 case h_1 v3 h3=>
 split at U
 case h_2=>cases U
 case h_1 n dU=>
 split at U
 case h_2=>cases U
 case h_1 v4 vy aG=>
 cases U;unfold gW;simp only;rw[LI cU,h1,cR,b2,cr,d2];simp only;have bt:(iu P dL.op).f bo (iO T (some b) ej) bB=some (ec,bB):=by rw[b1];show fZ bB (pG (cf (hs T b ej) b))=_;rw[yd ak,h2];rfl
 rw[bt];simp only;have ei:(iu P hJ.op).f bo (iO (iO T (some b) ej) (some c) ec) bB=some (v3,bB):=by rw[dg];show fZ bB ((Aa P hY f).f (cf (hs (hs T b ej) c ec) c))=_;rw[yd (by simp_all[pJ]),h3];rfl
 rw[ei];simp only;have h6:(iu P fL.op).f bo (iO (iO (iO T (some b) ej) (some c) ec) (some d) v3) bB=some (v4,ab):=by
  rw[ZA ah d1,dU];show bx n (cf (hs (hs (hs T b ej) c ec) d v3) d) kv bB=_
  grind[yd,pJ]
 simp_all
end
end
end Go.Ab
namespace Go.Ab
open Go
section
variable{P:Program}[h7]
structure HW (P:Program) (g:FuncId) (gn:Func) (tt hY f cN:Nat) (kv:Value) (uw:Array Oper):Prop where
 fn:P.funcs[g]?=some gn
 body:∃(AX vF:Nat) (mO ne:Oper),gn.body=some (.seq (.region AX #[mO,ne] false) (.cond (.tmp 2) (.region vF uw false) .skip))/\(∀(A:Act) w,(execOp A.eval mO).run P w=.ok .recover w)/\mO.dst=some 1/\mO.guard=none/\ne.dst=some 2/\ne.guard=none/\
  (∀(A:Act) w u pv,A.eval (.tmp 1)=.iface u pv->(execOp A.eval ne).run P w=.ok (.value (.bool true)) w)/\(∀(A:Act) w,A.eval (.tmp 1)=.nilIface->(execOp A.eval ne).run P w=.ok (.value (.bool false)) w)
 aR:gn.ntmps=6
 ZB:∀(tmps:Array Value) (w:World),(results gn tmps).run P w=.ok (.tuple #[]) w
 bD:CV P tt hY f cN kv 0 3 4 5 uw.toList
variable{g:FuncId}{gn:Func}{tt hY f cN:Nat}{kv:Value}{uw:Array Oper}
theorem LO{o:Oper}{y:Nat->Option Bool}(h:o.guard=none):Region.wanted o y=true:=by grind[Region.wanted]
theorem apd{c:Frame}{u:FrameMode}(h:c.mode=u):c={c with mode:=u}:=by subst h;rfl
theorem ape(h:HW P g gn tt hY f cN kv uw)(aZ:Value)(w:World):CallsDIn (ew none) 0 P g #[aZ] .returning w fun e pa aW=>(∃v,e=.returned v)/\pa=.returning/\aW=w:=by
 obtain⟨AX,vF,mO,ne,ak,Q9,mj,zq,hnd,Ra,_,apf⟩:=h.body;refine callsDIn_of_wpSIn h.fn ak trivial fun LP aq bf=>?_
 rw[h.aR];refine wpSIn_seq (wpSIn_region ?_);have fc:List.range (#[mO,ne]:Array Oper).size=[0,1]:=rfl;rw[fc];have eX:(#[mO,ne]:Array Oper)[0]?=some mO:=rfl;have a7:(#[mO,ne]:Array Oper)[1]?=some ne:=rfl;simp only[wpOpsSIn,eX,a7];rw[if_pos (LO zq),Q9];simp only;have Hz:recoverD (LP::aq)=none:=by simp[recoverD,bf]
 rw[Hz];simp only;refine⟨fun _ _=>trivial,fun _ _=>trivial,?_⟩;rw[if_pos (LO Ra),apf _ _ (by simp_all[Fy])];simp only;refine wpSIn_cond (t:=false) (by simp_all[Fy,HT]) ?_;simp only[Bool.false_eq_true,if_false];refine wpSIn_of_wpIn rfl (wpIn_skip ?_);refine⟨by simp_all[LG],.returning,?_,_,h.ZB _ _,⟨_,rfl⟩,rfl,rfl⟩;rw[<- apd bf]
theorem apg{bo:hQ}(dW:cz P)(bI:iP P bo)(h:HW P g gn tt hY f cN kv uw){B:Nat}{σ:c8}{hh:Nat->Option Obj}{H ab:au}{w:World}{aZ mQ:Value}{u:TypeId}{pv:Value}(k:hK P B σ hh H w)(js:cq σ aZ mQ)(ev:AD P tt hY f cN kv aZ H=some ab)(cW:gN σ H.next ab.next):
  CallsDIn (ew none) 0 P g #[mQ] (.panicking [{v:=.iface u pv,recovered:=false}]) w fun e pa aW=>(∃v,e=.returned v)/\pa=.panicking [{v:=.iface u pv,recovered:=true}]/\∃ τ aT,fW B σ hh H w τ aT ab aW:=by
 obtain⟨AX,vF,mO,ne,ak,Q9,mj,zq,hnd,Ra,Xa,_⟩:=h.body;refine callsDIn_of_wpSIn h.fn ak trivial fun LP aq bf=>?_
 rw[h.aR];refine wpSIn_seq (wpSIn_region ?_);have fc:List.range (#[mO,ne]:Array Oper).size=[0,1]:=rfl;rw[fc];have eX:(#[mO,ne]:Array Oper)[0]?=some mO:=rfl;have a7:(#[mO,ne]:Array Oper)[1]?=some ne:=rfl;simp only[wpOpsSIn,eX,a7];rw[if_pos (LO zq),Q9];simp only;have Hz:recoverD (LP::aq)=some (.iface u pv,{LP with mode:=.panicking [{v:=.iface u pv,recovered:=true}]}::aq):=by simp[recoverD,bf]
 rw[Hz];simp only;refine⟨fun _ _=>trivial,fun _ _=>trivial,?_⟩;rw[if_pos (LO Ra),Xa _ _ u pv (by simp_all[Fy])];simp only;refine wpSIn_cond (t:=true) (by simp_all[Fy,HT]) ?_;simp only[if_true];refine wpSIn_of_wpIn rfl ?_;rw[mj,hnd];have bk:bL σ [aZ,undef,undef,undef,undef,undef] (#[mQ]++Array.replicate (6-(#[mQ]:Array Value).size) undef).toList:=js.cons (.cons .undef (.cons .undef (.cons .undef (.cons .undef (.cons .undef .nil)))));obtain⟨a1,vC,rfl⟩:=apc (bo:=bo) h.bD (T:=[aZ,undef,undef,undef,undef,undef]) (show 3<6 by decide) (show 4<6 by decide) (show 5<6 by decide) ev;refine wpIn_mono (Q:=fun e a aW=>e=.normal/\a.defers=[]/\∃ τ aT,fW B σ hh H w τ aT a1.H aW) (wpIn_region ?_) ?_;refine aoX (Q:=fun e ds aW=>e=.normal/\ds=[]/\∃ τ aT,fW B σ hh H w τ aT a1.H aW) (Q2:=fun t=>t !=1&&t !=2) ?_ _ {tmps:=#[mQ]++Array.replicate (6-(#[mQ]:Array Value).size) undef,defers:=[]} _ w ?_ ?_ ?_ ?_;obtain⟨b3,dL,hJ,fL,aD,⟨cU,cR,a3⟩,⟨b1,b2,gE⟩,⟨dg,cr,fJ⟩,⟨d1,d2,d3⟩⟩:=h.bD.c6;intro i o an;have fu:[b3,dL,hJ,fL][i]?=some o:=by grind
 match i,fu with
 | 0,fu=>simp_all[Op.operands]
 | 1,fu=>simp_all[Op.operands]
 | 2,fu=>simp_all[Op.operands]
 | 3,fu=>simp_all[Op.operands]
 | n+4,fu=>grind
 simp_all[Zo,Ne.symm]
 grind[HT]
 rfl;rw[range_eq_range',<- Array.length_toList];exact Ha dW bI uw none uw.toList 0 rfl σ hh _ H w _ a1 k cW bk vC fun τ aT cH aW bP q2 cS=>⟨rfl,q2,τ,aT,cS⟩
 rintro e a aW ⟨rfl,aO,τ,aT,al⟩;exact⟨aO,_,rfl,_,h.ZB _ _,⟨_,rfl⟩,rfl,τ,aT,al⟩
end
end Go.Ab
namespace Go.Ab
open Go
section
variable{P:Program}[h7][eA]
variable{g:FuncId}{gn:Func}{tt hY ZC cN:Nat}{kv:Value}{uw:Array Oper}
theorem ZD(dW:cz P){f:FuncId}{fn:Func}{vk i1 i9:Nat}{oN ops9:Array Oper}{t s k b c d:Nat}{mk D:Oper}{cc:Call}{Bc LQ:Code}
  (hf:P.funcs[f]?=some fn) (ak:fn.body=some (.seq (.region vk oN false) (.seq (.region i1 #[mk,D] false) Bc)))
  (o9:mk.op=.makeFunc (.func g) #[] #[.tmp s]) (Zv:mk.dst=some t) (Kb:mk.guard=none)
  (lF:D.op=.defer cc) (yX:cc.callee=.value (.tmp t)) (LR:cc.args=#[]) (QS:D.guard=none) (QT:D.dst=none)
  (ht:t<fn.ntmps) (ah:k+1<fn.ntmps) (aFN:fn.params.size+fn.nfree<=k) (ux:t<k) (ZE:t≠s)
  (aph:qU P k (.region vk oN false)=false) (api:qU P (k+1) (.region vk oN false)=false)
  (ka:HW P g gn tt hY ZC cN kv uw) (fe:CV P tt hY ZC cN kv s b c d ops9.toList) (kl:b<=k) (jE:c<=k) (aFO:d<=k)
  (sw:fn.results=#[])
  (Rb:∀bo,iP P bo->qX P bo s k (.seq (.region i9 ops9 false) .ret) LQ Bc):
  EV P f (.seq (.region vk oN false) (.seq (.region i1 #[mk] false) LQ)):=by
 intro n hA args H c6 v ab U B σ h w gp hS cW hv;have bI:=hA n (Nat.le_refl _);obtain⟨aow,b3,ej,vu,aB,ao,yf,bM,hlen⟩:=Qd U;rw[hf]at vu;cases vu;cases bM;refine⟨⟨fn,_,hf,ak⟩,callsIn_of_wp_defers hf ak trivial ?_⟩;have bk:=QP hv fn.ntmps;have aFP:fn.ntmps<=(args++List.replicate (fn.ntmps-args.length) undef).length:=by grind
 have Rc:∀i,args.length<=i->cf (args++List.replicate (fn.ntmps-args.length) undef) i=undef:=by grind[pI]
 have apj:=Rc k (by omega);have EJ:=Rc (k+1) (by omega);clear Rc;generalize args++List.replicate (fn.ntmps-args.length) undef=mh at*;obtain⟨ll,bn,rG,aB⟩:=CT (x:=dN P true (.region vk oN false)) (y:=dN P true (.seq (.region i1 #[mk] false) LQ)) aB (fun o bM=>(vw bI oN.toList oN.toList mh H o hS.dc bM).2);have apk:jQ P (e7 P n) oN.toList oN.toList mh H=some ll:=bn;have HQ:=mi bI true _ _ _ _ hS.dc bn;obtain⟨il,jo,FA,aB⟩:=CT (x:=dN P true (.region i1 #[mk] false)) (y:=dN P true LQ) aB (fun o bM=>(vw bI [mk] [mk] ll.T ll.H o (HQ.wf hS.dc) bM).2);have Rd:jQ P (e7 P n) [mk] [mk] ll.T ll.H=some il:=jo;have Lz:=mi bI true _ _ _ _ (HQ.wf hS.dc) jo;have LS:=mi bI true _ _ _ _ (Lz.wf (HQ.wf hS.dc)) aB;have lo:ll.T.length=mh.length:=HN _ _ _ _ _ apk;have ph:il.T.length=mh.length:=(HN _ _ _ _ _ Rd).trans lo;have sr:il.T=hs ll.T t (.func (.func g) #[] #[cf ll.T s]):=by
  have CW:gW P (e7 P n) mk ((iT [mk] mk.guard).f ll.T) ll.T ll.H (jQ P (e7 P n) [mk] [])=some il:=Rd;rw[Kb]at CW;have CW:gW P (e7 P n) mk true ll.T ll.H (jQ P (e7 P n) [mk] [])=some il:=CW;unfold gW at CW;simp only at CW;split at CW;rename_i ec cJ al;cases CW;have jF:ec=.func (.func g) #[] #[cf ll.T s]:=by
   unfold iu at al;split at al;rw[o9]at al;have al:some (Value.func (.func g) #[] #[cf ll.T s],ll.H)=some (ec,cJ):=al
   simp_all
   grind
  simp_all[iO]
  grind
 have qY:cf il.T t=.func (.func g) #[] #[cf ll.T s]:=by grind[yd]
 have Cl:cf il.T s=cf ll.T s:=by simp_all[LJ]
 have apl:qV k il.T:=by refine⟨?_,?_,by omega⟩;rw[sr,LJ (by omega),HU true k (.region vk oN false) rfl aph _ _ _ bn];exact apj;rw[sr,LJ (by omega),HU true (k+1) (.region vk oN false) rfl api _ _ _ bn];exact EJ
 have ZF:gN σ H.next ll.H.next:=cW.left (Nat.le_trans Lz.dO LS.dO);refine wpIn_seq ?_;refine wpIn_mono (CS dW bI true (.region vk oN false) rfl _ _ _ bn σ h w ⟨_,[]⟩ none hS ZF bk) ?_;rintro e cU dT ⟨bP,q2,τ,h1,cS,eI⟩;rw[rG]at bP;subst bP;show(Code.seq (.region i1 #[mk,D] false) Bc).wpIn (ew none) 0 P _ cU dT;have dZ:=hS.next eI;have uy:gN τ ll.H.next il.H.next:=(cW.right eI.hD).left LS.dO;refine wpIn_seq ?_;refine wpIn_region ?_;rw[range_eq_range'];have fc:(#[mk,D]:Array Oper).size=[mk].length+[D].length:=rfl;rw[fc];refine QO dW bI #[mk,D] [mk] none [D] [mk] 0 rfl (by simp_all) τ h1 ll.T ll.H dT cU il dZ uy cS Rd ?_;intro jB h2 cR fb dx bp eQ;have rO:=QQ dx t;rw[qY]at rO;obtain⟨mQ,js,rO⟩:∃mQ,cq jB (cf ll.T s) mQ/\cR.eval (.tmp t)=.func (.func g) #[] #[mQ]:=by
  generalize cR.eval (.tmp t)=z at rO;cases rO with
  | func _ _ bR _ eW ao ba _=>have a7:=ao.rE;obtain⟨y,r,bt,h3,aG⟩:=ba.nF;have ei:=aG.rE;subst ei;exact⟨y,h3,by rw[show bR=#[]from Array.ext' a7,show eW=#[y]from Array.ext' bt]⟩
 have gd:=dZ.next eQ;have p7:cR.defers=[]:=bp.trans q2;refine Zc (i:=1) rfl QS lF QT yX rO ?_;rw[LR];show Bc.wpIn (ew none) 0 P _ _ fb;have ZG:gN jB il.H.next b3.H.next:=(cW.right eI.hD).right eQ.hD;have ZH:fW B σ h H w jB h2 il.H fb:=eI.trans hS ZF (eQ.trans dZ uy (fW.refl gd));have apm:=Rb _ bI il.T il.H b3 apl (Lz.wf (HQ.wf hS.dc)) aB;have kn:v=.tuple #[]:=by
  rw[sw]at yf;have yf:some (Value.tuple #[])=some v:=yf
  simp_all
 have ZI:∀(tmps:Array Value) (w:World),(results fn tmps).run P w=.ok (.tuple #[]) w:=by simp_all[KN]
 refine wpIn_mono (apm B jB h2 fb {cR with defers:=⟨.fn (.func g) #[mQ],#[]++(#[]:Array Operand).map cR.eval⟩::cR.defers} gd ZG dx) ?_;have iQ:∀kz,(invoke (.fn (.func g) #[mQ]) (#[]++(#[]:Array Operand).map cR.eval)).run P kz=.ok (.enter g #[mQ]) kz:=by
  intro kz;obtain⟨AX,vF,mO,ne,AY,_⟩:=ka.body;show(callFunc g ((#[]++(#[]:Array Operand).map cR.eval)++#[mQ])).run P kz=_;have e:(#[]++(#[]:Array Operand).map cR.eval)++#[mQ]=#[mQ]:=by simp
  rw[e];exact Kk dW ka.fn AY _ _
 rintro e a3 kz (⟨cg,cd,LU,h3,g3,g4⟩|⟨u,pv,LU,h3,bB,ft,cg,cd,g3,g4,g5,lh,g7⟩);have ev:=ZH.trans hS (cW.left LS.dO) g4;have wT:LeavesIn (ew none) 0 P fn a3.tmps (fun e aW=>∃aQ τ aT,e=.returned aQ/\cq τ v aQ/\fW B σ h H w τ aT b3.H aW) a3.defers .returning kz:=by rw[cd];show LeavesIn (ew none) 0 P fn a3.tmps _ (_::cR.defers) .returning kz;rw[p7];refine leavesIn_cons (by simp) (fun h=>by cases h) (f:=g) (args:=#[mQ]) (iQ kz) (fun _ _=>trivial) ?_;refine(ape ka mQ kz).mono ?_;rintro e pa aW ⟨⟨v0,rfl⟩,rfl,rfl⟩;exact⟨_,ZI _ _,_,LU,h3,rfl,by rw[kn];exact .tuple _ _ .nil .nil,ev⟩
 cases he:b3.c6 with
 | exit id=>simp_all
 | normal=>rw[he]at cg;subst cg;exact wT
 | ret=>rw[he]at cg;subst cg;exact wT
 subst cg;have ev:=ZH.trans hS (cW.left LS.dO) (show fW B jB h2 il.H fb LU h3 bB kz from g3);have mg:=gd.next g3;obtain⟨FB,Re,_,apn⟩:=CT (x:=dN P true (.region i9 ops9 false)) (y:=dN P true .ret) g7 (fun o bM=>(vw bI ops9.toList ops9.toList ft bB o mg.dc bM).2);have Re:jQ P (e7 P n) ops9.toList ops9.toList ft bB=some FB:=Re;have vG:b3.H=FB.H:=by
  have:some (⟨.ret,FB.T,FB.H⟩:el)=some b3:=apn
  grind
 have ZJ:=apb fe (T:=ft) (by omega) (by omega) (by omega) Re;rw[<- vG,g5,Cl]at ZJ;have apo:gN LU bB.next b3.H.next:=ZG.right g3.hD;show LeavesIn (ew none) 0 P fn a3.tmps _ a3.defers (.panicking _) kz;rw[cd];show LeavesIn (ew none) 0 P fn a3.tmps _ (_::cR.defers) (.panicking _) kz;rw[p7];refine leavesIn_cons (by simp) (fun h=>by cases h) (f:=g) (args:=#[mQ]) (iQ kz) (fun _ _=>trivial) ?_;refine(apg dW bI ka mg (js.mono g3.hD.mono) ZJ apo).mono ?_;rintro e pa aW ⟨⟨v0,rfl⟩,rfl,apq,aG,CX⟩;have apr:settle (.panicking [{v:=.iface u pv,recovered:=true}])=.returning:=by rfl
 show LeavesIn (ew none) 0 P fn a3.tmps _ [] (settle _) aW;rw[apr];refine⟨_,ZI _ _,_,apq,aG,rfl,by rw[kn];exact .tuple _ _ .nil .nil,?_⟩;refine ev.trans hS ?_ CX;exact cW.left (by exact g4.dO)
end
end Go.Ab
namespace Go.Ab
open Go
noncomputable def yg(P:Program)(f:Nat):Func:=(P.funcs.toList[f]?).getD default
theorem FC{P:Program}{f:Nat}(h:(P.funcs.toList[f]?).isSome=true):P.funcs[f]?=some (yg P f):=by simp_all[yg]
def ea:Code->Code|.seq a _=>a|c=>c
def dd:Code->Code|.seq _ b=>b|c=>c
def dk:Code->Code|.cond _ a _=>a|c=>c
def uz:Code->Code|.cond _ _ b=>b|c=>c
def oQ:Code->Array Oper|.region _ o _=>o|_=>#[]
def nN:Code->Nat|.region i _ _=>i|_=>0
def ZK:Code->Operand|.cond c _ _=>c|_=>.tmp 0
def jt(c:Code)(i:Nat):Oper:=((oQ c).toList[i]?).getD default
def FD(o:Oper):Call:=match o.op with|.defer c=>c|.call c=>c|_=>default
theorem ZL{P:Program}{mO:Oper}{tys:Array TypeId}(h:mO.op=.call ⟨.builtin .recover,#[],tys⟩)(A:Act)(w:World):(execOp A.eval mO).run P w=.ok .recover w:=by obtain⟨dst,op,de,bc,after,guard⟩:=mO;simp only at h;subst h;rfl
theorem aps{P:Program}{t u:TypeId}{pv:Value}{w:World}{ms:Array (String×TypeId)}(ht:P.underlying t=some (.interface ms)):(Op.equal t (.iface u pv) .nilIface).run P w=.ok false w:=by show(Op.equalIn (9999+1) t (.iface u pv) .nilIface).run P w=_;generalize 9999=d;simp only[Op.equalIn,Sem.run_bind,run_underlying ht,Result.andThen_ok,Sem.run_pure]
theorem apt{P:Program}{t:TypeId}{w:World}{ms:Array (String×TypeId)}(ht:P.underlying t=some (.interface ms)):(Op.equal t .nilIface .nilIface).run P w=.ok true w:=by show(Op.equalIn (9999+1) t .nilIface .nilIface).run P w=_;generalize 9999=d;simp only[Op.equalIn,Sem.run_bind,run_underlying ht,Result.andThen_ok,Sem.run_pure]
theorem ZM{P:Program}{ne:Oper}{t yt:TypeId}{ms:Array (String×TypeId)}(h:ne.op=.binOp .neq t (.tmp 1) (.const .nilIface) yt)(ht:P.underlying t=some (.interface ms)):
  (∀(A:Act) w u pv,A.eval (.tmp 1)=.iface u pv->(execOp A.eval ne).run P w=.ok (.value (.bool true)) w)/\(∀(A:Act) w,A.eval (.tmp 1)=.nilIface->(execOp A.eval ne).run P w=.ok (.value (.bool false)) w):=by
 obtain⟨dst,op,de,bc,after,guard⟩:=ne;simp only at h;subst h;have aB:∀A:Act,A.eval (.const .nilIface)=.nilIface:=fun _=>rfl
 simp_all[execOp,eqGuard,binOp,aps,apt]
end Go.Ab
