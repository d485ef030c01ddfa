/- texts of the pv, gd behind the oq -/
import Derived.DefersIn
import Derived.RecoverIn
import Derived.Calls
import Derived.OrdersIn
import Derived.Tactics
import Derived.Tactics2
import Derived.Test.YtifflnhooaophaaGreatDoorAbC
set_option linter.unusedVariables false
set_option linter.unusedSimpArgs false
set_option linter.unusedSectionVars false
namespace Go.Ab
open Go
def lD:Code->Bool
 | .skip=>true
 | .region _ _ _=>true
 | .seq a b=>lD a&&lD b
 | .cond _ a b=>lD a&&lD b
 | .ret=>true
 | _=>false
section
variable{P:Program}[hy]{B:Nat}{bq:hl}
def Pf(B:Nat)(σ:cQ)(h:Nat->Option Obj)(H:au)(w:World)(ds:List Deferred)(aT:ef):Exit->Act->World->Prop:=
 fun e cr aL=>e=AZ aT.cP/\cr.defers=ds/\∃ τ a7,bG τ aT.T cr.tmps.toList/\fp B σ h H w τ a7 aT.H aL
theorem Bn(dz:en P)(bE:h7 P bq)(de:Bool):∀(c:Code),lD c=true->∀(T:List Value) (H:au) (aT:ef),(dr P de c).f bq T H=some aT->
  ∀(σ:cQ) (h:Nat->Option Obj) (w:World) (a:Act) (r:Option Nat),gY P B σ h H w->gy σ H.next aT.H.next->bG σ T a.tmps.toList->c.wpIn (eF r) 0 P (Pf B σ h H w a.defers aT) a w:=by
 intro c;induction c with
 | skip=>intro _ T H aT U σ h w a r k _ bk;cases U;exact wpIn_skip ⟨rfl,rfl,σ,h,bk,fp.refl k⟩
 | ret=>intro _ T H aT U σ h w a r k _ bk;cases U;exact wpIn_ret ⟨rfl,rfl,σ,h,bk,fp.refl k⟩
 | region id bA d=>
  intro _ T H aT U σ h w a r k cJ bk;cases d with
  | true=>exact VE dz bE bA id r k cJ bk U fun ao τ a7 cr aL bP ca dH=>⟨by rw[ao];rfl,ca,τ,a7,bP,dH⟩
  | false=>refine wpIn_region ?_;have aV:=uh bE bA.toList _ _ _ _ k.c6 U;rw[List.range_eq_range',<- Array.length_toList];refine FF dz bE bA r bA.toList 0 (by simp) σ h T H w a aT k cJ bk U ?_;intro τ a7 cr aL bP ca dH;exact⟨by rw[aV.2];rfl,ca,τ,a7,bP,dH⟩
 | seq x y cL vs=>
  intro bM T H aT U σ h w a r k cJ bk;have bM:(lD x&&lD y)=true:=bM;rw[Bool.and_eq_true]at bM;have U:nb ((dr P de x).f bq T H) (fun T H=>(dr P de y).f bq T H)=some aT:=U;obtain⟨bW,ad,af⟩:=sh U;have fk:=lP bE de x _ _ _ k.c6 ad;refine wpIn_seq ?_;rcases af with⟨ao,af⟩|⟨ao,rfl⟩
  ·have dG:=lP bE de y _ _ _ (fk.wf k.c6) af;refine wpIn_mono (cL bM.1 _ _ _ ad σ h w a r k (cJ.left dG.ek) bk) ?_;rintro e cr aL ⟨bP,ca,τ,a7,dH,eG⟩;rw[ao]at bP;subst bP;show y.wpIn (eF r) 0 P (Pf B σ h H w a.defers aT) cr aL;refine wpIn_mono (vs bM.2 _ _ _ af τ a7 aL cr r (k.next eG) (cJ.right eG.gZ) dH) ?_;rintro e da e3 ⟨bX,b7,iZ,pH,g3,g4⟩;exact⟨bX,b7.trans ca,iZ,pH,g3,eG.trans k (cJ.left dG.ek) g4⟩
  ·refine wpIn_mono (cL bM.1 _ _ _ ad σ h w a r k cJ bk) ?_;rintro e cr aL q;have bP:=q.1;cases he:aT.cP with
   | normal=>simp_all
   | exit id=>rw[he]at bP;subst bP;exact q
   | ret=>rw[he]at bP;subst bP;exact q
 | cond c x y cL vs=>
  intro bM T H aT U σ h w a r k cJ bk;have bM:(lD x&&lD y)=true:=bM;rw[Bool.and_eq_true]at bM;have U:oZ bq ((ee c).g T) (dr P de x) (dr P de y) T H=some aT:=U;unfold oZ at U
  grind[wpIn_cond,Ji]
 | _=>intro bM;cases bM
theorem Pg(dz:en P)(bE:h7 P bq)(bA:Array Oper)(all:List Oper)(r:Option Nat)(nn:List Oper){Q:Exit->Act->World->Prop}:∀(l:List Oper) (i:Nat),bA.toList.drop i=l++nn->(∀o∈l,o.guard=none)->
  ∀(σ:cQ) (h:Nat->Option Obj) (T:List Value) (H:au) (w:World) (a:Act) (aT:ef),gY P B σ h H w->gy σ H.next aT.H.next->bG σ T a.tmps.toList->jo P bq all l T H=some aT->
  (∀ τ a7 cr aL,bG τ aT.T cr.tmps.toList->cr.defers=a.defers->fp B σ h H w τ a7 aT.H aL->wpOpsIn (eF r) 0 P bA Q (List.range' (i+l.length) nn.length) cr aL)->wpOpsIn (eF r) 0 P bA Q (List.range' i (l.length+nn.length)) a w
 | [],i,aD,hg,σ,h,T,H,w,a,aT,k,cJ,bk,U,b5=>by
  cases U;have:=b5 σ h a w bk rfl (fp.refl k)
  simp_all
 | o::l,i,aD,hg,σ,h,T,H,w,a,aT,k,cJ,bk,U,b5=>by
  have bJ:bA[i]?=some o:=by
   have:(bA.toList.drop i)[0]?=some o:=by grind
   grind
  have vp:bA.toList.drop (i+1)=l++nn:=by
   have:(bA.toList.drop i).drop 1=l++nn:=by grind
   grind[List.drop_drop]
  have gI:gE P bq o ((ie all o.guard).f T) T H (jo P bq all l)=some aT:=U;rw[hg o (.head _)]at gI;have gI:gE P bq o true T H (jo P bq all l)=some aT:=gI;unfold gE at gI;have e:(o::l).length+nn.length=(l.length+nn.length)+1:=by grind
  rw[e,List.range'_succ];simp only[wpOpsIn,bJ];have aM:Region.wanted o (yielded bA a.tmps)=true:=by simp_all[Region.wanted]
  rw[if_pos aM];simp only at gI;split at gI
  ·rename_i v bw aw;have fk:=Dg bE k.c6 aw;have dG:=uh bE all l _ bw aT (fk.wf k.c6) gI;refine I0 dz bE o k (cJ.left dG.1.ek) bk aw ?_;intro aQ τ a7 aL hv st;obtain⟨dK,bI⟩:=wx (σ:=τ) (bk.mono st.gZ.mono) o.dst hv;refine Pg dz bE bA all r nn l (i+1) vp (fun x ao=>hg x (List.mem_cons_of_mem _ ao)) τ a7 _ bw aL _ aT (k.next st) (cJ.right st.gZ) dK gI ?_;intro iZ af cr e3 bP ca dH;rw[show i+1+l.length=i+(o::l).length by omega];exact b5 iZ af cr e3 bP (ca.trans bI) (st.trans k (cJ.left dG.1.ek) dH)
  grind
theorem Gg(T:List Value)(d:Option Tmp)(v:Value):(h5 T d v).length=T.length:=by
 cases d with
 | none=>rfl
 | some d=>show(gV T d v).length=_;simp_all[o1]
theorem Gh(all:List Oper):∀(l:List Oper) (T:List Value) (H:au) (aT:ef),jo P bq all l T H=some aT->aT.T.length=T.length
 | [],T,H,aT,U=>by cases U;rfl
 | o::l,T,H,aT,U=>by
  have U:gE P bq o ((ie all o.guard).f T) T H (jo P bq all l)=some aT:=U;unfold gE at U;split at U
  ·split at U
   ·rw[Gh all l _ _ _ U,Gg]
   ·cases U
  ·rw[Gh all l _ _ _ U,Gg]
theorem zk{T:List Value}{d:Option Tmp}{v:Value}{i:Nat}(h:d≠some i):b3 (h5 T d v) i=b3 T i:=by
 cases d with
 | none=>rfl
 | some d=>
  show b3 (gV T d v) i=b3 T i
  simp_all[o1,o0]
theorem Kf(i:Nat)(all:List Oper):∀(l:List (Oper×na)) (T:List Value) (H:au) (dC:List l2) (aT:ef),(∀o∈l,o.1.dst≠some i)->p6 P bq all l T H dC=some aT->b3 aT.T i=b3 T i
 | [],T,H,dC,aT,_,U=>by cases U;rfl
 | o::l,T,H,dC,aT,aJ,U=>by
  have U:rl P bq o.1 o.2 ((ie all o.1.guard).f T) T H dC (p6 P bq all l)=some aT:=U;have ad:=aJ o (.head _);have af:∀x∈l,x.1.dst≠some i:=fun x ao=>aJ x (List.mem_cons_of_mem _ ao)
  unfold rl at U;split at U
  ·split at U
   ·split at U
    ·rw[Kf i all l _ _ _ _ af U,zk ad]
    ·cases U
   ·cases U
  ·rw[Kf i all l _ _ _ _ af U,zk ad]
theorem Ph{σ:cQ}{args:List Value}{fL:Array Value}(hv:bG σ args fL.toList)(m:Nat):bG σ (args++List.replicate (m-args.length) undef) (fL++Array.replicate (m-fL.size) undef).toList:=by
 have hlen:args.length=fL.size:=by have:=hv.length;omega
 rw[Array.toList_append,Array.toList_replicate,hlen];refine hv.append ?_;generalize m-fL.size=n;induction n with
 | zero=>exact .nil
 | succ n bd=>exact cg.undef.cons bd
theorem Pj{σ:cQ}{T:List Value}{a:Act}(bk:bG σ T a.tmps.toList)(i:Nat):cg σ (b3 T i) (a.eval (.tmp i)):=by
 have af:=bk.getD i;have ax:a.tmps.toList.getD i undef=a.tmps.getD i undef:=by simp_all
 rw[ax,<- o0]at af;exact af
theorem Xp{bA:Array Oper}{i:Nat}{D:Oper}{cc:Call}{aK:Operand}{g:FuncId}{first cap:Array Value}{a:Act}{w:World}{Q:Exit->Act->World->Prop}(bJ:bA[i]?=some D)(hg:D.guard=none)(k9:D.op=.defer cc)(al3:D.dst=none)
  (aA:cc.callee=.value aK) (hf:a.eval aK=.func (.func g) first cap) (b5:Q .normal {a with defers:=⟨.fn (.func g) cap,first++cc.args.map a.eval⟩::a.defers} w):wpOpsIn (eF none) 0 P bA Q (List.range' i 1) a w:=by
 show wpOpsIn (eF none) 0 P bA Q [i] a w;simp only[wpOpsIn,bJ];have aM:Region.wanted D (yielded bA a.tmps)=true:=by simp_all[Region.wanted]
 rw[if_pos aM];refine⟨fun _ _=>trivial,?_⟩;have e:(D.semAt (eF none).round a.eval).run P w=.ok (.defer ⟨.fn (.func g) cap,first++cc.args.map a.eval⟩) w:=by simp_all[Oper.semAt_none,execOp,resolve,Deferred.ofValue]
 rw[e,Oper.uponIn_defer,al3];exact b5
theorem Bo{x y:Ii}{T:List Value}{H:au}{aT:ef}(U:nb (x.f bq T H) (fun T H=>y.f bq T H)=some aT)(aX:∀o,x.f bq T H=some o->o.cP=.normal):∃bW,x.f bq T H=some bW/\bW.cP=.normal/\y.f bq bW.T bW.H=some aT:=by grind[sh]
end
section
variable{P:Program}[hy][ep]
theorem Xq{σ:cQ}{T:List Value}{a:Act}(bk:bG σ T a.tmps.toList):∀(l:List Operand),(∀x∈l,∃i,x=.tmp i)->bG σ (kg l T) (l.map a.eval)
 | [],_=>.nil
 | x::l,h=>by obtain⟨i,rfl⟩:=h x (.head _);exact(Pj bk i).cons (Xq bk l fun y ba=>h y (List.mem_cons_of_mem _ ba))
theorem Xr{T dw:List Value}:∀(l:List Operand),(∀x∈l,∃i,x=.tmp i/\b3 dw i=b3 T i)->kg l dw=kg l T
 | [],_=>rfl
 | x::l,h=>by obtain⟨i,rfl,aq⟩:=h x (.head _);show b3 dw i::kg l dw=b3 T i::kg l T;rw[aq,Xr l fun y ba=>h y (List.mem_cons_of_mem _ ba)]
theorem Pk(dz:en P){B:Nat}{bq:hl}(bE:h7 P bq){A hp Xs:Code}{σ:cQ}{h:Nat->Option Obj}{T:List Value}{H:au}{w:World}{a:Act}{aT:ef}{Q:Exit->Act->World->Prop}(bM:lD A=true)(aA:(dr P true (.seq A hp)).f bq T H=some aT)
  (k:gY P B σ h H w) (cJ:gy σ H.next aT.H.next) (bk:bG σ T a.tmps.toList) (aJ:a.defers=[])
  (al4:aT.cP≠.normal->∀ τ a7 cr aL,bG τ aT.T cr.tmps.toList->cr.defers=[]->fp B σ h H w τ a7 aT.H aL->Q (AZ aT.cP) cr aL)
  (aBS:(∃id,aT.cP=.exit id)->False)
  (next:∀bW:ef,(dr P true hp).f bq bW.T bW.H=some aT->gh H bW.H->gh bW.H aT.H->∀ τ a7 cr aL,bG τ bW.T cr.tmps.toList->cr.defers=[]->fp B σ h H w τ a7 bW.H aL->Xs.wpIn (eF none) 0 P Q cr aL):
  (Code.seq A Xs).wpIn (eF none) 0 P Q a w:=by
 have U:nb ((dr P true A).f bq T H) (fun T H=>(dr P true hp).f bq T H)=some aT:=aA;obtain⟨bW,ad,af⟩:=sh U;have fk:=lP bE true A _ _ _ k.c6 ad;refine wpIn_seq ?_;rcases af with⟨ao,af⟩|⟨ao,rfl⟩
 ·have dG:=lP bE true hp _ _ _ (fk.wf k.c6) af;refine wpIn_mono (Bn dz bE true A bM _ _ _ ad σ h w a none k (cJ.left dG.ek) bk) ?_;rintro e cr aL ⟨bP,ca,τ,a7,dH,eG⟩;rw[ao]at bP;subst bP;exact next bW af fk dG τ a7 cr aL dH (ca.trans aJ) eG
 ·refine wpIn_mono (Bn dz bE true A bM _ _ _ ad σ h w a none k cJ bk) ?_;rintro e cr aL ⟨bP,ca,τ,a7,dH,eG⟩;have:=al4 ao τ a7 cr aL dH (ca.trans aJ) eG;subst bP;cases he:aT.cP with
  | normal=>simp_all
  | exit id=>simp_all
  | ret=>rw[he]at this;exact this
theorem al5(dz:en P){f:FuncId}{fn:Func}{Gi zl Gj:Code}{i4 l5 Kg:Nat}{ops4 ss:Array Oper}{su:List Oper}{g:FuncId}{D C:Oper}{cc:Call}{gn:Func}{gc:Code}
  (hf:P.funcs[f]?=some fn) (an:fn.body=some (.seq Gi (.seq zl (.seq Gj (.seq (.region i4 ops4 false) (.seq (.region l5 ss true) .ret))))))
  (kY:lD Gi=true) (dK:lD zl=true) (bI:lD Gj=true) (aO:ops4.toList=su++[D]) (al6:∀o∈su,o.guard=none)
  (k9:D.op=.defer cc) (AU:cc.callee=.value (.func g)) (Pl:D.guard=none) (Pm:D.dst=none)
  (jO:C.op=.call cc) (al7:C.guard=none) (al8:C.dst=none)
  (A4:∀x∈cc.args.toList,∃i,x=.tmp i/\∀o∈r6 P ss.toList,o.1.dst≠some i)
  (hg:P.funcs[g]?=some gn) (Pn:gn.body=some gc) (al9:lD gc=true) (ama:∀args H,ep.lf g args H=none) (amb:ep.oG g=none):
  Ds P f (.seq Gi (.seq zl (.seq Gj (.seq (.region i4 su.toArray false) (.seq (.region l5 ss true) (.seq (.region Kg #[C] false) .ret)))))):=by
 intro n hA args H cP v ab U B σ h w fL k cJ hv;have bE:=hA n (Nat.le_refl _);obtain⟨amc,bW,ev,uf,aA,ao,rq,bJ,_⟩:=OD U;rw[hf]at uf;cases uf;cases bJ;refine⟨⟨fn,_,hf,an⟩,callsIn_of_wp_defers hf an trivial ?_⟩;have bk:=Ph hv fn.ntmps;generalize args++List.replicate (fn.ntmps-args.length) undef=lO at*;have Po:∀ {mG:cQ} {a7:Nat->Option Obj} {fN:au} {mh:World},gY P B mG a7 fN mh->fp B σ h H w mG a7 fN mh->gy σ H.next fN.next->bW.cP≠.normal->∀ τ af cr aL,bG τ bW.T cr.tmps.toList->cr.defers=[]->fp B mG a7 fN mh τ af bW.H aL->
   bodyPostDIn (eF none) 0 P fn (fun e aL=>∃aQ τ a7,e=.returned aQ/\cg τ v aQ/\fp B σ h H w τ a7 bW.H aL) (AZ bW.cP) cr aL:=by
  intro mG a7 fN mh hG ua nI dj τ af cr aL dH ca eG;have eJ:=hG.next eG;have vt:LeavesIn (eF none) 0 P fn cr.tmps (fun e aL=>∃aQ τ a7,e=.returned aQ/\cg τ v aQ/\fp B σ h H w τ a7 bW.H aL) cr.defers .returning aL:=by rw[ca];obtain⟨aQ,oa,iK⟩:=Jp eJ dH rq;exact⟨aQ,oa,aQ,τ,af,rfl,iK,ua.trans k nI eG⟩
  cases he:bW.cP with
  | normal=>simp_all
  | exit id=>simp_all
  | ret=>exact vt
 refine Pk dz bE kY aA k cJ bk rfl (Po k (fp.refl k) (fun i a b=>absurd b (Nat.not_lt.2 a))) (fun⟨id,he⟩=>ao id he) ?_;clear aA bk;intro lE aA Gk amd ame aR a0 mh bk amf ua;have hG:=k.next ua;have nI:gy σ H.next lE.H.next:=cJ.left amd.ek;have n8:=cJ.right ua.gZ;refine Pk dz bE dK aA hG n8 bk amf (Po hG ua nI) (fun⟨id,he⟩=>ao id he) ?_;clear aA bk;intro hH aA Kh Xt aBT ad dm dF bk qJ c4;have eJ:=hG.next c4;have gr:gy ame lE.H.next hH.H.next:=n8.left Xt.ek;have bQ:=n8.right c4.gZ;have a8:=ua.trans k nI c4;have bX:gy σ H.next hH.H.next:=cJ.left Xt.ek;refine Pk dz bE bI aA eJ bQ bk qJ (Po eJ a8 bX) (fun⟨id,he⟩=>ao id he) ?_;clear aA bk;intro dt aA dG amg Xu af da e3 bk n2 cw;have hx:=eJ.next cw;have cE:=bQ.right cw.gZ;have dL:=a8.trans k bX cw;have b7:gy σ H.next dt.H.next:=cJ.left amg.ek;obtain⟨hn,ax,aBU,aA⟩:=Bo (x:=dr P true (.region i4 su.toArray false)) (y:=dr P true (.seq (.region l5 ss true) (.seq (.region Kg #[C] false) .ret))) aA (fun o bJ=>(uh bE _ _ dt.T dt.H o hx.c6 bJ).2);have amh:jo P (eM P n) su su dt.T dt.H=some hn:=by have Ki:jo P (eM P n) su.toArray.toList su.toArray.toList dt.T dt.H=some hn:=ax;omega
 have s3:=lP bE true _ _ _ _ hx.c6 ax;have Xv:=lP bE true _ _ _ _ (s3.wf hx.c6) aA;refine wpIn_seq ?_;refine wpIn_region ?_;rw[List.range_eq_range'];have eU:ops4.size=su.length+[D].length:=by grind[List.length_append]
 rw[eU];have kj:gy Xu dt.H.next hn.H.next:=cE.left Xv.ek;refine Pg dz bE ops4 su none [D] su 0 (by grind) al6 Xu af dt.T dt.H e3 da hn hx kj bk amh ?_;intro Pp Ki a3 kR Gl ami ru;have oE:=hx.next ru;have ff:=cE.right ru.gZ;have t3:=dL.trans k b7 ru;have g3:gy σ H.next hn.H.next:=cJ.left Xv.ek;refine Xp (i:=0+su.length) (D:=D) ?_ Pl k9 Pm AU (a:=a3) (g:=g) (first:=#[]) (cap:=#[]) rfl ?_
 ·have:ops4.toList[0+su.length]?=some D:=by grind
  grind
 show(Code.seq (.region l5 ss true) .ret).wpIn (eF none) 0 P _ _ kR;obtain⟨kZ,bl,amj,aA⟩:=Bo (x:=dr P true (.region l5 ss true)) (y:=dr P true (.seq (.region Kg #[C] false) .ret)) aA (fun o bJ=>by
  have bJ:ox P (eM P n) ss.toList hn.T hn.H=some o:=bJ;unfold ox at bJ;split at bJ
  ·have:∀(l:List (Oper×na)) (T:List Value) (H:au) (dC:List l2),p6 P (eM P n) ss.toList l T H dC=some o->o.cP=.normal:=by
    intro l;induction l with
    | nil=>intro T H dC h;cases h;rfl
    | cons x l bd=>
     intro T H dC h;have h:rl P (eM P n) x.1 x.2 ((ie ss.toList x.1.guard).f T) T H dC (p6 P (eM P n) ss.toList l)=some o:=h;unfold rl at h
     grind
   grind
  grind)
 have Xw:∃dC,p6 P (eM P n) ss.toList (r6 P ss.toList) hn.T hn.H dC=some kZ:=by
  have Gm:ox P (eM P n) ss.toList hn.T hn.H=some kZ:=bl
  grind[ox]
 obtain⟨aBV,Xw⟩:=Xw;have Xx:=lP bE true _ _ _ _ (oE.c6) bl;have Xy:=lP bE true _ _ _ _ (Xx.wf oE.c6) aA;have lA:gy Pp hn.H.next kZ.H.next:=ff.left Xy.ek;obtain⟨zm,bL,aBW,aA⟩:=Bo (x:=dr P true (.region Kg #[C] false)) (y:=dr P true .ret) aA (fun o bJ=>(uh bE [C] [C] kZ.T kZ.H o (Xx.wf oE.c6) bJ).2);have amk:bW=⟨.ret,zm.T,zm.H⟩:=by
  have:some (⟨.ret,zm.T,zm.H⟩:ef)=some bW:=aA
  grind
 have zn:gE P (eM P n) C ((ie [C] C.guard).f kZ.T) kZ.T kZ.H (jo P (eM P n) [C] [])=some zm:=bL;rw[al7]at zn;have zn:gE P (eM P n) C true kZ.T kZ.H (jo P (eM P n) [C] [])=some zm:=zn;unfold gE at zn;simp only at zn;split at zn
 case h_2=>cases zn
 case h_1 xY xZ DP=>
 have iG:zm=⟨.normal,kZ.T,xZ⟩:=by have:some (⟨.normal,h5 kZ.T C.dst xY,xZ⟩:ef)=some zm:=zn;rw[al8]at this;cases this;rfl
 subst iG;subst amk;have wz:∃cP,eM P n (.call g (kg cc.args.toList kZ.T) kZ.H)=some ⟨cP,[xY],xZ⟩:=by
  unfold hU at DP;split at DP
  ·rw[jO]at DP;unfold xh at DP;simp only[AU]at DP;obtain⟨Fs,cP,ht,xS⟩:=FE DP;have Pq:some (we.fn g (hT [] (hT (kg cc.args.toList kZ.T) [])))=some Fs:=ht;cases Pq;refine⟨cP,?_⟩;have xS:eM P n (.call g (hT [] (hT (kg cc.args.toList kZ.T) [])) kZ.H)=some ⟨cP,[xY],xZ⟩:=xS
   grind[iF]
  grind
 obtain⟨aml,wz⟩:=wz;cases n with
 | zero=>cases wz
 | succ m=>
 have wz:(match ep.lf g (kg cc.args.toList kZ.T) kZ.H with|some v=>some (⟨.ret,[v],kZ.H⟩:ef)|none=>match ep.oG g with|some c=>ry P g c (eM P m) (kg cc.args.toList kZ.T) kZ.H|none=>(tU P g).f (eM P m) (kg cc.args.toList kZ.T) kZ.H)=some ⟨aml,[xY],xZ⟩:=wz;rw[ama,amb]at wz;simp only at wz;obtain⟨aBX,aBY,Xz,aBZ,wM,XA,amm,aB0,amn,zo⟩:=Oz wz;rw[hg]at wM;cases wM;rw[Pn]at XA;cases XA;cases zo;have amo:=hA m (Nat.le_succ m);have kN:kg cc.args.toList kZ.T=kg cc.args.toList hn.T:=Xr _ fun x ao=>by grind[Kf]
 have Pr:bG Pp (kg cc.args.toList hn.T) (cc.args.map a3.eval).toList:=by grind[Array.toList_map,Xq]
 refine wpIn_seq ?_;refine wpIn_mono (Bn dz bE true (.region l5 ss true) rfl _ _ _ bl Pp Ki kR {a3 with defers:=_::a3.defers} none oE lA Gl) ?_;rintro e a5 Kj ⟨bP,ca,Ps,Gm,dH,eG⟩;rw[amj]at bP;subst bP;refine wpIn_ret ?_;have Bp:=oE.next eG;have t5:=t3.trans k g3 eG;have g5:gy σ H.next kZ.H.next:=cJ.left Xy.ek;have DQ:=ff.right eG.gZ;show LeavesIn (eF none) 0 P fn a5.tmps _ a5.defers .returning Kj;rw[ca];show LeavesIn (eF none) 0 P fn a5.tmps _ (_::a3.defers) .returning Kj;rw[ami,n2];refine leavesIn_cons (by simp) (fun h=>by cases h) (f:=g) (args:=(#[]++cc.args.map a3.eval)++#[]) ?_ (fun _ _=>trivial) ?_
 ·exact IT dz hg Pn _ _
 have amp:bG Ps (kg cc.args.toList kZ.T) ((#[]++cc.args.map a3.eval)++#[]).toList:=by
  rw[kN];have:=Pr.mono eG.gZ.mono
  grind
 have amq:=Ph amp gn.ntmps;refine(callsDIn_of_wp (R:=fun e aL=>∃v0 τ a7,e=.returned v0/\fp B Ps Gm kZ.H Kj τ a7 Xz.H aL) hg Pn trivial ?_).mono ?_
 ·refine wpIn_mono (Bn dz amo true gc al9 _ _ _ amm Ps Gm Kj ⟨_,[]⟩ none Bp DQ amq) ?_;rintro e lF amr ⟨Kk,XB,Kl,Km,ams,Pt⟩;have Gn:=Bp.next Pt;obtain⟨aQ,oa,iK⟩:=Jp Gn ams amn;cases he:Xz.cP with
  | exit id=>simp_all
  | normal=>rw[he]at Kk;subst Kk;exact⟨XB,aQ,oa,aQ,Kl,Km,rfl,Pt⟩
  | ret=>rw[he]at Kk;subst Kk;exact⟨XB,aQ,oa,aQ,Kl,Km,rfl,Pt⟩
 ·rintro e oD amr ⟨rfl,v0,Kl,Km,rfl,Pu⟩;have Gn:=Bp.next Pu;obtain⟨aQ,oa,iK⟩:=Jp Gn (dH.mono Pu.gZ.mono) rq;exact⟨aQ,oa,aQ,Kl,Km,rfl,iK,t5.trans k g5 Pu⟩
end
end Go.Ab
namespace Go.Ab
open Go
def amt:Code->Code
 | .seq Gi (.seq zl (.seq Gj (.seq (.region i4 ops4 false) (.seq DQ .ret))))=>
  match ops4.toList.reverse with
  | D::l=>match D.op with
   | .defer cc=>.seq Gi (.seq zl (.seq Gj (.seq (.region i4 l.reverse.toArray false) (.seq DQ (.seq (.region i4 #[{D with op:=.call cc,dst:=none}] false) .ret)))))
   | _=>.skip
  | []=>.skip
 | _=>.skip
def x0(o:Oper)(x:Tmp)(t a:TypeId)(k:Tmp)(mg kK:Code):Code:=
 .seq (.region 0 #[{o with dst:=some k,op:=.typeAssert (.tmp x) t a true,guard:=none},{o with dst:=some (k+1),op:=.extract (.tmp k) 1,guard:=none}] false)
  (.cond (.tmp (k+1)) (.seq (.region 0 #[{o with dst:=some k,op:=.assign (.const (.tuple #[])),guard:=none},{o with dst:=some (k+1),op:=.assign (.const (.tuple #[])),guard:=none}] false) mg) kK)
def amu(t a3 np:TypeId)(k:Tmp):Code->Code
 | .seq n8 (.seq (.region i1 tf jg) (.seq (.seq cE (.cond db amv .skip)) (.seq amw (.seq (.seq amx (.seq amy (.cond ga jw .skip))) amz))))=>
  match tf.toList with
  | mk::_=>.seq n8 (.seq (.region i1 #[mk] jg) (.seq (.seq cE (.cond db (x0 mk 1 t a3 k amv jw) .skip)) (.seq amw (x0 mk 1 t np k (.seq (.seq amx (.seq amy (.cond ga jw .skip))) amz) jw))))
  | []=>.skip
 | _=>.skip
def amA(t a:TypeId)(k:Tmp):Code->Code
 | .seq n8 (.seq (.region i1 tf jg) (.seq uq (.seq A (.seq (.seq amB (.cond c R .skip)) amC))))=>
  match tf.toList with
  | mk::_=>.seq n8 (.seq (.region i1 #[mk] jg) (.seq uq (x0 mk 1 t a k (.seq A (.seq (.seq amB (.cond c R .skip)) amC)) R)))
  | []=>.skip
 | _=>.skip
def x1(P:Program)(f:FuncId)(T:Code->Code):Code:=match P.funcs.toList[f]? with
 | some fn=>match fn.body with
  | some c=>T c
  | none=>.skip
 | none=>.skip
end Go.Ab
namespace Go.Ab
open Go
theorem XC{a:Act}{i j:Tmp}{v:Value}(h:i≠j):(a.put (some i) v).eval (.tmp j)=a.eval (.tmp j):=by simp_all[Act.put,Act.eval]
theorem DR{a:Act}{i:Tmp}{v:Value}(h:i<a.tmps.size):(a.put (some i) v).eval (.tmp i)=v:=by simp_all[Act.put,Act.eval]
theorem Gp{a:Act}{d:Option Tmp}{v:Value}:(a.put d v).tmps.size=a.tmps.size:=by cases d<;>simp[Act.put]
theorem Kn{a:Act}{d:Option Tmp}{v:Value}:(a.put d v).defers=a.defers:=by cases d<;>rfl
theorem XD(w:World)(o:Go.Obj):RowKit.Below w.heap.size w (w.alloc o):=
 ⟨rfl,rfl,rfl,by simp_all,fun k ag=>by show(w.heap.push o)[k]?=_;grind⟩
theorem amD{P:Program}{e:TypeId}{w:World}{s d:Option TypeId}{a:TypeId}{m:String}(h:P.underlying P.rt.typeAssertionError=some (.pointer e)):
  ∃fD o,(runtimePanic (α:=Value) (.typeAssertion s d a m)).run P w=.halt (.panic (.iface P.rt.typeAssertionError fD)) (w.alloc o):=by
 refine⟨.pointer (some ⟨w.heap.size,0,none⟩),?_⟩;simp only[runtimePanic,Sem.run_bind,run_program,elemOf,run_underlying h,Result.andThen_ok,Sem.run_pure,newVar,newRow,run_newObj_alloc];exact⟨_,rfl⟩
theorem amE{P:Program}{e t a:TypeId}{w:World}{x:Value}{iH:TypeDesc}(h:P.underlying P.rt.typeAssertionError=some (.pointer e))(br:P.underlying a=some iH)(aX:∀ms,iH≠.interface ms)
  (ao:x=.nilIface\/∃aU v,x=.iface aU v/\aU≠a):∃fD o,(Instr.typeAssert x t a false).run P w=.halt (.panic (.iface P.rt.typeAssertionError fD)) (w.alloc o):=by
 have hf:∀s d m,∃fD o,(runtimePanic (α:=Value) (.typeAssertion s d a m)).run P w=.halt (.panic (.iface P.rt.typeAssertionError fD)) (w.alloc o):=fun s d m=>amD h
 rcases ao with rfl|⟨aU,v,rfl,bD⟩
 ·simp_all[Instr.typeAssert,run_underlying]
 simp_all[Instr.typeAssert,run_underlying]
theorem XE{a b:Act}{d:Option Tmp}{v:Value}{t:Tmp}(aw:a.tmps.size=b.tmps.size)(h:a.eval (.tmp t)=b.eval (.tmp t)):(a.put d v).eval (.tmp t)=(b.put d v).eval (.tmp t):=by
 cases d with
 | none=>exact h
 | some i=>grind[DR,Act.put,Act.eval,XC]
theorem amF{P:Program}{bA:Array Oper}{Pv:Tmp->Bool}{Q:Exit->List Deferred->World->Prop}
  (U6:∀(i:Nat) (o:Oper),bA[i]?=some o->o.guard=none/\(∀ar b,o.op≠.select ar b)/\∀x∈o.op.operands,∀t,x=.tmp t->Pv t=true):
  ∀(l:List Nat) (a b:Act) (w:World),(∀t,Pv t=true->a.eval (.tmp t)=b.eval (.tmp t))->a.tmps.size=b.tmps.size->a.defers=b.defers->
   wpOpsIn (eF none) 0 P bA (fun e a w=>Q e a.defers w) l a w->wpOpsIn (eF none) 0 P bA (fun e a w=>Q e a.defers w) l b w:=by
 intro l;induction l with
 | nil=>intro a b w _ _ aJ h;show Q _ b.defers w;rw[<- aJ];exact h
 | cons i l bd=>
  intro a b w ag aw aJ h;unfold wpOpsIn at h⊢;cases bJ:bA[i]? with
  | none=>grind
  | some o=>
   simp only[bJ]at h⊢;obtain⟨hg,amG,jW⟩:=U6 i o bJ;have aM:∀c:Act,Region.wanted o (yielded bA c.tmps)=true:=fun c=>by simp_all[Region.wanted]
   rw[if_pos (aM _)]at h⊢;refine⟨fun _ _=>trivial,?_⟩;have af:=h.2;have e:(o.semAt (eF none).round b.eval)=(o.semAt (eF none).round a.eval):=by
    show o.semAt none b.eval=o.semAt none a.eval;rw[Oper.semAt_none,Oper.semAt_none];refine execOp_congr o amG fun x ao=>?_
    cases x with
    | tmp t=>grind
    | _=>rfl
   rw[e];have aX:∀(d:Option Tmp) (v:Value) (aL:World),wpOpsIn (eF none) 0 P bA (fun e a w=>Q e a.defers w) l (a.put d v) aL->wpOpsIn (eF none) 0 P bA (fun e a w=>Q e a.defers w) l (b.put d v) aL:=fun d v aL hh=>bd _ _ aL (fun t ht=>XE aw (ag t ht)) (by simp_all[Gp]) (by simp_all[Kn]) hh
   generalize (o.semAt (eF none).round a.eval).run P w=r at af;cases r with
   | ok x aL=>
    cases x<;>simp only[Oper.uponIn]at af⊢ <;>
     first
      | exact aX _ _ _ af
      | exact⟨af.1,CallsIn.mono af.2 (fun e amH he=>by grind)⟩
      | exact⟨af.1,RowsIn.mono af.2 (fun _ _ he=>aX _ _ _ he)⟩
      | exact⟨af.1,RoundIn.mono af.2 (fun e amH he=>by grind)⟩
      |(rename_i d;exact bd ({a with defers:=d::a.defers}.put o.dst undef) ({b with defers:=d::b.defers}.put o.dst undef) aL (fun t ht=>XE (a:={a with defers:=d::a.defers}) (b:={b with defers:=d::b.defers}) aw (ag t ht)) (by simp_all[Gp]) (by simp_all[Kn]) af)
      | exact af
   | halt x aL=>cases x<;>simp only[Oper.uponIn]at af⊢ <;> first|exact af|simp_all
end Go.Ab
namespace Go.Ab
open Go
section
variable{P:Program}[hy]{B:Nat}{bq:hl}
noncomputable def amI(P:Program)(i:Tmp)(bA:Array Oper):Bool->Bool
 | true=>(r6 P bA.toList).any fun o=>o.1.dst==some i
 | false=>bA.toList.any fun o=>o.dst==some i
noncomputable def qk(P:Program)(i:Tmp):Code->Bool
 | .region _ bA d=>amI P i bA d
 | .seq a b=>qk P i a||qk P i b
 | .cond _ a b=>qk P i a||qk P i b
 | _=>false
theorem Pw(i:Nat)(all:List Oper):∀(l:List Oper) (T:List Value) (H:au) (aT:ef),(∀o∈l,o.dst≠some i)->jo P bq all l T H=some aT->b3 aT.T i=b3 T i
 | [],T,H,aT,_,U=>by cases U;rfl
 | o::l,T,H,aT,aJ,U=>by
  have U:gE P bq o ((ie all o.guard).f T) T H (jo P bq all l)=some aT:=U;have ad:=aJ o (.head _);have af:∀x∈l,x.dst≠some i:=fun x ao=>aJ x (List.mem_cons_of_mem _ ao)
  unfold gE at U;split at U
  ·split at U
   ·rw[Pw i all l _ _ _ af U,zk ad]
   ·cases U
  ·rw[Pw i all l _ _ _ af U,zk ad]
theorem Px(all:List Oper):∀(l:List (Oper×na)) (T:List Value) (H:au) (dC:List l2) (aT:ef),p6 P bq all l T H dC=some aT->aT.T.length=T.length/\aT.cP=.normal
 | [],T,H,dC,aT,U=>by cases U;exact⟨rfl,rfl⟩
 | o::l,T,H,dC,aT,U=>by
  have U:rl P bq o.1 o.2 ((ie all o.1.guard).f T) T H dC (p6 P bq all l)=some aT:=U;unfold rl at U;split at U
  ·split at U
   ·split at U
    ·obtain⟨ad,af⟩:=Px all l _ _ _ _ U;exact⟨by rw[ad,Gg],af⟩
    ·cases U
   ·cases U
  ·obtain⟨ad,af⟩:=Px all l _ _ _ _ U;exact⟨by rw[ad,Gg],af⟩
theorem amJ(de:Bool):∀(c:Code),lD c=true->∀(T:List Value) (H:au) (aT:ef),(dr P de c).f bq T H=some aT->aT.T.length=T.length:=by
 intro c;induction c with
 | skip=>intro _ T H aT U;cases U;rfl
 | ret=>intro _ T H aT U;cases U;rfl
 | region id bA d=>
  intro _ T H aT U;cases d with
  | true=>
   have U:ox P bq bA.toList T H=some aT:=U
   grind[ox,Px]
  | false=>exact Gh _ _ _ _ _ U
 | seq a b vw mm=>
  intro bM T H aT U;have bM:(lD a&&lD b)=true:=bM;rw[Bool.and_eq_true]at bM
  grind[dr,sh]
 | cond c a b vw mm=>
  intro bM T H aT U;have bM:(lD a&&lD b)=true:=bM;rw[Bool.and_eq_true]at bM;have U:oZ bq ((ee c).g T) (dr P de a) (dr P de b) T H=some aT:=U;unfold oZ at U
  grind
 | _=>intro bM;cases bM
theorem Gq(de:Bool)(i:Tmp):∀(c:Code),lD c=true->qk P i c=false->∀(T:List Value) (H:au) (aT:ef),(dr P de c).f bq T H=some aT->b3 aT.T i=b3 T i:=by
 intro c;induction c with
 | skip=>intro _ _ T H aT U;cases U;rfl
 | ret=>intro _ _ T H aT U;cases U;rfl
 | region id bA d=>
  intro _ aJ T H aT U;cases d with
  | true=>
   have U:ox P bq bA.toList T H=some aT:=U;have aJ:((r6 P bA.toList).any fun o=>o.1.dst==some i)=false:=aJ
   grind[ox,Kf]
  | false=>
   have aJ:(bA.toList.any fun o=>o.dst==some i)=false:=aJ;refine Pw i _ _ _ _ _ (fun o bJ h=>?_) U
   grind
 | seq a b vw mm=>
  intro bM aJ T H aT U;have bM:(lD a&&lD b)=true:=bM;have aJ:(qk P i a||qk P i b)=false:=aJ;rw[Bool.and_eq_true]at bM
  grind[dr,sh]
 | cond c a b vw mm=>
  intro bM aJ T H aT U;have bM:(lD a&&lD b)=true:=bM;have aJ:(qk P i a||qk P i b)=false:=aJ;rw[Bool.and_eq_true]at bM;rw[Bool.or_eq_false_iff]at aJ;have U:oZ bq ((ee c).g T) (dr P de a) (dr P de b) T H=some aT:=U;unfold oZ at U
  grind
 | _=>intro bM;cases bM
theorem Py{σ:cQ}{h:Nat->Option Obj}{H:au}{w aL:World}(k:gY P B σ h H w)(an:RowKit.Below w.heap.size w aL):fp B σ h H w σ h H aL:=
 ⟨⟨k.fv.below an,Nat.le_refl _,fun _ _=>rfl,fun _ _ h=>h,an.os,an.tape,an.output,an.size,fun c aA _=>an.block c aA,fun _ h _=>h⟩,k.sub,fun id b an=>by rwa [AY]at an,gh.refl H⟩
def DS(k:Nat)(T:List Value):Prop:=b3 T k=undef/\b3 T (k+1)=undef/\k+1<T.length
def amK(P:Program)(bq:hl)(s:Nat)(jw:Code)(B:Nat)(σ:cQ)(h:Nat->Option Obj)(H:au)(w:World)(ds:List Deferred)(T:List Value)(aT:ef):Exit->Act->World->Prop:=
 fun e cr aL=>∃aU fD τ ad bw ft,e=.panic [{v:=.iface aU fD,recovered:=false}]/\cr.defers=ds/\fp B σ h H w τ ad bw aL/\gh bw aT.H/\b3 ft s=b3 T s/\ft.length=T.length/\(dr P true jw).f bq ft bw=some aT
def XF(P:Program)(bq:hl)(s:Nat)(jw:Code)(B:Nat)(σ:cQ)(h:Nat->Option Obj)(H:au)(w:World)(ds:List Deferred)(T:List Value)(aT:ef):Exit->Act->World->Prop:=
 fun e cr aL=>Pf B σ h H w ds aT e cr aL\/amK P bq s jw B σ h H w ds T aT e cr aL
def nq(P:Program)(bq:hl)(s k:Nat)(jw hp C:Code):Prop:=
 ∀(T:List Value) (H:au) (aT:ef),DS k T->H.dy<=H.next->(dr P true hp).f bq T H=some aT->(aT.cP=.normal->DS k aT.T/\b3 aT.T s=b3 T s/\aT.T.length=T.length)/\
  ∀(B:Nat) (σ:cQ) (h:Nat->Option Obj) (w:World) (a:Act),gY P B σ h H w->gy σ H.next aT.H.next->bG σ T a.tmps.toList->C.wpIn (eF none) 0 P (XF P bq s jw B σ h H w a.defers T aT) a w
variable{s k:Nat}{jw:Code}
theorem nq.pG(dz:en P)(bE:h7 P bq){A:Code}(bM:lD A=true)(aw:qk P s A=false)(aR:qk P k A=false)(ad:qk P (k+1) A=false):nq P bq s k jw A A:=by intro T H aT eD hf U;refine⟨fun _=>?_,fun B σ h w a ew cJ bk=>wpIn_mono (Bn dz bE true A bM T H aT U σ h w a none ew cJ bk) fun e cr aL h=>.inl h⟩;have aD:=amJ true A bM T H aT U;exact⟨⟨(Gq true k A bM aR _ _ _ U).trans eD.1,(Gq true (k+1) A bM ad _ _ _ U).trans eD.2.1,by rw[aD];exact eD.2.2⟩,Gq true s A bM aw _ _ _ U,aD⟩
theorem nq.cond{c:Operand}{bK x fi y:Code}(ao:nq P bq s k jw bK x)(ba:nq P bq s k jw fi y):nq P bq s k jw (.cond c bK fi) (.cond c x y):=by
 intro T H aT eD hf U;have U:oZ bq ((ee c).g T) (dr P true bK) (dr P true fi) T H=some aT:=U;unfold oZ at U;split at U
 ·rename_i t hv;cases t with
  | true=>
   obtain⟨ad,af⟩:=ao T H aT eD hf U
   grind[wpIn_cond,Ji]
  | false=>
   obtain⟨ad,af⟩:=ba T H aT eD hf U
   grind[wpIn_cond,Ji]
 grind
theorem nq.seq(bE:h7 P bq)(bc:∀T H o,(dr P true jw).f bq T H=some o->o.cP=.ret){ho A hp C:Code}(hA:nq P bq s k jw ho A)(jO:nq P bq s k jw hp C):nq P bq s k jw (.seq ho hp) (.seq A C):=by
 intro T H aT eD hf U;have U:nb ((dr P true ho).f bq T H) (fun T H=>(dr P true hp).f bq T H)=some aT:=U;obtain⟨bW,ad,af⟩:=sh U;have fk:=lP bE true ho _ _ _ hf ad;obtain⟨dm,da⟩:=hA T H bW eD hf ad;rcases af with⟨ao,af⟩|⟨ao,rfl⟩
 ·obtain⟨bX,b7,g3⟩:=dm ao;have C6:=fk.wf hf;have dG:=lP bE true hp _ _ _ C6 af;obtain⟨db,cp⟩:=jO bW.T bW.H aT bX C6 af;refine⟨fun aX=>?_,fun B σ h w a ew cJ bk=>?_⟩
  ·simp_all
  ·refine wpIn_seq (wpIn_mono (da B σ h w a ew (cJ.left dG.ek) bk) ?_);rintro e cr aL (⟨bP,ca,τ,a7,dH,eG⟩|⟨aU,fD,τ,zp,bw,ft,dK,bI,fm,cY,fx,gP,dI⟩)
   ·rw[ao]at bP;subst bP;refine wpIn_mono (cp B τ a7 aL cr (ew.next eG) (cJ.right eG.gZ) dH) ?_;rintro e amL e3 (⟨bQ,cE,iZ,pH,ff,wA⟩|⟨aU,fD,iZ,zp,bw,ft,dK,bI,fm,cY,fx,gP,dI⟩)
    ·exact .inl ⟨bQ,cE.trans ca,iZ,pH,ff,eG.trans ew (cJ.left dG.ek) wA⟩
    ·exact .inr ⟨aU,fD,iZ,zp,bw,ft,dK,bI.trans ca,eG.trans ew (cJ.left dG.ek) fm,cY,fx.trans b7,gP.trans g3,dI⟩
   grind
 ·refine⟨fun aX=>absurd aX ao,fun B σ h w a ew cJ bk=>wpIn_seq (wpIn_mono (da B σ h w a ew cJ bk) ?_)⟩;intro e cr aL b5;cases e with
  | normal=>
   rcases b5 with⟨bP,_⟩|⟨_,_,_,_,_,_,dK,_⟩
   ·cases he:aT.cP with
    | normal=>simp_all
    | exit id=>rw[he]at bP;cases bP
    | ret=>rw[he]at bP;cases bP
   grind
  | exit id=>exact b5
  | goto l=>exact b5
  | ret=>exact b5
  | panic xA=>exact b5
  | outgrown=>exact b5
def ql(P:Program)(bq:hl)(s k:Nat)(jw hp C:Code):Prop:=
 ∀(T:List Value) (H:au) (aT:ef),DS k T->H.dy<=H.next->(dr P true hp).f bq T H=some aT->
  ∀(B:Nat) (σ:cQ) (h:Nat->Option Obj) (w:World) (a:Act),gY P B σ h H w->gy σ H.next aT.H.next->bG σ T a.tmps.toList->C.wpIn (eF none) 0 P (XF P bq s jw B σ h H w a.defers T aT) a w
theorem nq.e{hp C:Code}(h:nq P bq s k jw hp C):ql P bq s k jw hp C:=fun T H aT eD hf U=>(h T H aT eD hf U).2
theorem ql.pG(dz:en P)(bE:h7 P bq){A:Code}(bM:lD A=true):ql P bq s k jw A A:=fun T H aT eD hf U B σ h w a ew cJ bk=>wpIn_mono (Bn dz bE true A bM T H aT U σ h w a none ew cJ bk) fun e cr aL h=>.inl h
theorem ql.seq(bE:h7 P bq)(bc:∀T H o,(dr P true jw).f bq T H=some o->o.cP=.ret){ho A hp C:Code}(hA:nq P bq s k jw ho A)(jO:ql P bq s k jw hp C):ql P bq s k jw (.seq ho hp) (.seq A C):=by
 intro T H aT eD hf U;have U:nb ((dr P true ho).f bq T H) (fun T H=>(dr P true hp).f bq T H)=some aT:=U;obtain⟨bW,ad,af⟩:=sh U;have fk:=lP bE true ho _ _ _ hf ad;obtain⟨dm,da⟩:=hA T H bW eD hf ad;rcases af with⟨ao,af⟩|⟨ao,rfl⟩
 ·obtain⟨bX,b7,g3⟩:=dm ao;have C6:=fk.wf hf;have dG:=lP bE true hp _ _ _ C6 af;have cp:=jO bW.T bW.H aT bX C6 af;intro B σ h w a ew cJ bk;refine wpIn_seq (wpIn_mono (da B σ h w a ew (cJ.left dG.ek) bk) ?_);rintro e cr aL (⟨bP,ca,τ,a7,dH,eG⟩|⟨aU,fD,τ,zp,bw,ft,dK,bI,fm,cY,fx,gP,dI⟩)
  ·rw[ao]at bP;subst bP;refine wpIn_mono (cp B τ a7 aL cr (ew.next eG) (cJ.right eG.gZ) dH) ?_;rintro e amL e3 (⟨bQ,cE,iZ,pH,ff,wA⟩|⟨aU,fD,iZ,zp,bw,ft,dK,bI,fm,cY,fx,gP,dI⟩)
   ·exact .inl ⟨bQ,cE.trans ca,iZ,pH,ff,eG.trans ew (cJ.left dG.ek) wA⟩
   ·exact .inr ⟨aU,fD,iZ,zp,bw,ft,dK,bI.trans ca,eG.trans ew (cJ.left dG.ek) fm,cY,fx.trans b7,gP.trans g3,dI⟩
  grind
 ·intro B σ h w a ew cJ bk;refine wpIn_seq (wpIn_mono (da B σ h w a ew cJ bk) ?_);intro e cr aL b5;cases e with
  | normal=>
   rcases b5 with⟨bP,_⟩|⟨_,_,_,_,_,_,dK,_⟩
   ·cases he:aT.cP with
    | normal=>simp_all
    | exit id=>rw[he]at bP;cases bP
    | ret=>rw[he]at bP;cases bP
   grind
  | exit id=>exact b5
  | goto l=>exact b5
  | ret=>exact b5
  | panic xA=>exact b5
  | outgrown=>exact b5
end
end Go.Ab
namespace Go.Ab
open Go
section
variable{P:Program}[hy]{B:Nat}{bq:hl}{s k x:Nat}{jw:Code}{a t zq:TypeId}{iH:TypeDesc}
theorem XG{o:Oper}{y:Nat}(bJ:o.op=.typeAssert (.tmp y) t a false)(nN:P.underlying P.rt.typeAssertionError=some (.pointer zq))(br:P.underlying a=some iH)(aX:∀ms,iH≠.interface ms){A:Act}{w:World}
  (ao:A.eval (.tmp y)=.nilIface\/∃aU v,A.eval (.tmp y)=.iface aU v/\aU≠a) {next:Act->World->Prop} {Q:Exit->Act->World->Prop} (b5:∀aU fD hH,Q (.panic [{v:=.iface aU fD,recovered:=false}]) A (w.alloc hH)):o.wpIn (eF none) 0 P A w next Q:=by
 refine⟨fun _ _=>trivial,?_⟩;obtain⟨fD,hH,U⟩:=amE (t:=t) (w:=w) nN br aX ao;have e:(o.semAt (eF none).round A.eval).run P w=.halt (.panic (.iface P.rt.typeAssertionError fD)) (w.alloc hH):=by simp_all[Oper.semAt_none,execOp]
 rw[e];exact b5 _ _ _
def DT(a:TypeId)(v:Value):Prop:=v=.nilIface\/∃aU z,v=.iface aU z/\aU≠a
theorem DT.rel{σ:cQ}{v aQ:Value}(h:DT a v)(hv:cg σ v aQ):DT a aQ:=by
 rcases h with rfl|⟨aU,z,rfl,bD⟩
 ·cases hv;exact .inl rfl
 ·cases hv;exact .inr ⟨_,_,rfl,bD⟩
def qW(P:Program)(bq:hl)(s k x:Nat)(a tt:TypeId)(A:Code):Prop:=
 ∀(B:Nat) (σ:cQ) (h:Nat->Option Obj) (T:List Value) (H:au) (w:World) (kz:Act),gY P B σ h H w->bG σ T kz.tmps.toList->k+1<T.length->DT a (b3 T x)->(∃v,(n1 P tt).f (b3 T s) H=some (v,H))->∀(Q:Exit->Act->World->Prop),
  (∀cr aL aU fD τ a7,cr.defers=kz.defers->fp B σ h H w τ a7 H aL->Q (.panic [{v:=.iface aU fD,recovered:=false}]) cr aL)->A.wpIn (eF none) 0 P Q kz w
theorem qW.seq{tt:TypeId}{A C:Code}(h:qW P bq s k x a tt A):qW P bq s k x a tt (.seq A C):=by intro B σ aR T H w kz eJ bk ag bJ aD Q b5;exact wpIn_seq (h B σ aR T H w kz eJ bk ag bJ aD _ fun cr aL aU fD τ a7 ad af=>b5 cr aL aU fD τ a7 ad af)
theorem Gr{σ:cQ}{n:Nat}:gy σ n n:=fun i ad af=>absurd af (Nat.not_lt.2 ad)
theorem Ko{o:Oper}{bA:Array Oper}{A:Act}(h:o.guard=none):Region.wanted o (yielded bA A.tmps)=true:=by grind[Region.wanted]
theorem XH{T:List Value}{H:au}{o:Oper}(bJ:o.op=.move (.tmp x)):(hU P o.op).f bq T H=some (b3 T x,H):=by rw[bJ];rfl
theorem Kp{T:List Value}{H:au}{o:Oper}{tt:TypeId}(bJ:o.op=.load tt (.tmp s)):(hU P o.op).f bq T H=(n1 P tt).f (b3 T s) H:=by rw[bJ];rfl
theorem wN{T:List Value}{i:Nat}{v:Value}(h:i<T.length):b3 (gV T i v) i=v:=by simp_all[o1,o0]
theorem Kq{T:List Value}{i j:Nat}{v:Value}(h:i≠j):b3 (gV T i v) j=b3 T j:=zk (d:=some i) (fun e=>h (by grind))
theorem bG.size{σ:cQ}{T:List Value}{A:Act}(h:bG σ T A.tmps.toList):A.tmps.size=T.length:=by have:=h.length;simp_all
theorem qW.XI(dz:en P)(bE:h7 P bq){tt:TypeId}{id:Nat}{bA:Array Oper}{m o:Oper}{y:Nat}(nN:P.underlying P.rt.typeAssertionError=some (.pointer zq))(br:P.underlying a=some iH)(aX:∀ms,iH≠.interface ms)
  (aR:bA[0]?=some m) (ad:bA[1]?=some o) (aV:m.op=.move (.tmp x)) (XJ:m.dst=some y) (IJ:m.guard=none) (bJ:o.op=.typeAssert (.tmp y) t a false) (zo:o.guard=none) (ba:y<=k):qW P bq s k x a tt (.region id bA false):=by
 intro B σ h T H w kz eJ bk ag wO aD Q b5;refine wpIn_region ?_;obtain⟨n,eU⟩:∃n,bA.size=n+2:=by
  have:1<bA.size:=by grind
  exact⟨bA.size-2,by omega⟩
 rw[eU,List.range_eq_range',List.range'_succ,List.range'_succ];simp only[wpOpsIn,aR,Nat.zero_add];rw[if_pos (Ko IJ)];refine I0 dz bE m eJ Gr bk (XH aV) ?_;intro aQ τ a7 aL hv st;simp only[ad];rw[if_pos (Ko zo)];have Io:kz.tmps.size=T.length:=bG.size bk;have hx:=eJ.next st;refine XG bJ nN br aX ?_ ?_
 ·have uj:=DR (a:=kz) (i:=y) (v:=aQ) (show @LT.lt Nat _ y kz.tmps.size by omega);rw[XJ,uj];exact wO.rel hv
 ·intro aU fD hH;exact b5 _ _ aU fD τ a7 Kn (st.trans eJ Gr (Py hx (XD _ _)))
noncomputable def Kr(bA:Array Oper)(p m:Nat)(harm:List Nat):Nat->Array Bool->Bool
 | 0,_=>false
 | n+1,b6=>(! (Region.ready .any bA b6).isEmpty)&&(Region.ready .any bA b6).all fun i=>if i==p then b6.getD m false else harm.contains i&&Kr bA p m harm n (b6.setIfInBounds i true)
theorem XK(dz:en P)(bE:h7 P bq){tt:TypeId}{bA:Array Oper}{o:Oper}{y:Nat}{p m:Nat}{harm:List Nat}(nN:P.underlying P.rt.typeAssertionError=some (.pointer zq))(br:P.underlying a=some iH)(aX:∀ms,iH≠.interface ms)
  (ad:bA[p]?=some o) (bJ:o.op=.typeAssert (.tmp y) t a false) (zo:o.guard=none) (ba:y<=k)
  (hh:∀i∈harm,∃(dv:Oper) (d:Nat),bA[i]?=some dv/\dv.guard=none/\dv.dst=some d/\d≠s/\d≠x/\((dv.op=.move (.tmp x)/\d=y/\i=m)\/(dv.op=.load tt (.tmp s)/\d≠y/\i≠m)))
  {Q:Exit->Act->World->Prop} {lO:List Value} {H:au} (wO:DT a (b3 lO x)) (aD:∃v,(n1 P tt).f (b3 lO s) H=some (v,H)) (ag:k+1<lO.length):
  ∀(mi:Nat) (b6:Array Bool) (T:List Value) (B:Nat) (σ:cQ) (h:Nat->Option Obj) (w:World) (kz:Act),Kr bA p m harm mi b6=true->gY P B σ h H w->bG σ T kz.tmps.toList->T.length=lO.length->b3 T s=b3 lO s->b3 T x=b3 lO x->(b6.getD m false=true->b3 T y=b3 lO x)->
   (∀cr aL aU fD τ a7,cr.defers=kz.defers->fp B σ h H w τ a7 H aL->Q (.panic [{v:=.iface aU fD,recovered:=false}]) cr aL)->wpAnyIn (eF none) 0 P .any bA Q mi b6 kz w
 | 0,b6,T,B,σ,h,w,kz,an,_,_,_,_,_,_,_=>by cases an
 | mi+1,b6,T,B,σ,h,w,kz,an,eJ,bk,hlen,aw,ao,aV,b5=>by
  unfold Kr at an;rw[Bool.and_eq_true]at an;obtain⟨jX,pB⟩:=an;refine⟨fun aR=>(by simp_all),fun i aq=>?_⟩;have an:=List.all_eq_true.1 pB i aq;have Io:kz.tmps.size=T.length:=bG.size bk;by_cases hip:i=p
  ·subst hip;rw[if_pos (by simp)]at an;unfold wpOpIn;simp only[ad];rw[if_pos (Ko zo)];refine XG bJ nN br aX ?_ ?_
   ·have:=(Pj bk y);rw[aV an]at this;exact wO.rel this
   ·intro aU fD hH;exact b5 _ _ aU fD σ h rfl (Py eJ (XD _ _))
  ·rw[if_neg (by simp_all),Bool.and_eq_true]at an;obtain⟨dv,d,bX,b7,g3,g4,g5,kO⟩:=hh i (by simp_all);unfold wpOpIn;simp only[bX];rw[if_pos (Ko b7)];obtain⟨v,hv,amM⟩:∃v,(hU P dv.op).f bq T H=some (v,H)/\(i=m->v=b3 lO x):=by
    rcases kO with⟨bn,_,_⟩|⟨bn,_,ey⟩
    ·exact⟨_,XH bn,fun _=>ao⟩
    ·obtain⟨v,hv⟩:=aD
     grind[Kp]
   refine I0 dz bE dv eJ Gr bk hv ?_;intro aQ τ a7 aL amN st;rw[g3];obtain⟨dK,bI⟩:=wx (σ:=τ) (bk.mono st.gZ.mono) (some d) amN;refine XK dz bE nN br aX ad bJ zo ba hh wO aD ag mi _ (h5 T (some d) v) B τ a7 aL _ an.2 (eJ.next st) dK (by simp_all[Gg]) (by simp_all[zk]) (by simp_all[zk]) ?_ ?_
   ·intro Ks;by_cases him:i=m
    ·rw[amM him];have amO:d=y:=by omega
     subst amO;exact wN (by omega)
    simp_all[zk]
   ·intro cr e3 aU fD iZ af bn bF;exact b5 cr e3 aU fD iZ af (bn.trans bI) (st.trans eJ Gr bF)
theorem amP(w:World)(n:Nat):RowKit.Below w.heap.size w {w with drawn:=n}:=⟨rfl,rfl,rfl,Nat.le_refl _,fun _ _=>rfl⟩
theorem qW.any(dz:en P)(bE:h7 P bq){tt:TypeId}{id:Nat}{bA:Array Oper}{o:Oper}{y:Nat}{p m:Nat}{harm:List Nat}(nN:P.underlying P.rt.typeAssertionError=some (.pointer zq))(br:P.underlying a=some iH)(aX:∀ms,iH≠.interface ms)
  (ad:bA[p]?=some o) (bJ:o.op=.typeAssert (.tmp y) t a false) (zo:o.guard=none) (ba:y<=k)
  (hh:∀i∈harm,∃(dv:Oper) (d:Nat),bA[i]?=some dv/\dv.guard=none/\dv.dst=some d/\d≠s/\d≠x/\((dv.op=.move (.tmp x)/\d=y/\i=m)\/(dv.op=.load tt (.tmp s)/\d≠y/\i≠m)))
  (an:Kr bA p m harm bA.size (Array.replicate bA.size false)=true):qW P bq s k x a tt (.region id bA true):=by
 intro B σ h T H w kz eJ bk ag wO aD Q b5;refine wpIn_region_any dz.mixed ?_;have st:=Py eJ (amP w (w.drawn+1));refine XK dz bE nN br aX ad bJ zo ba hh wO aD ag _ _ T B σ h _ kz an (eJ.next st) bk rfl rfl rfl ?_ ?_
 ·intro Ks;rw[Array.getD_eq_getD_getElem?,Array.getElem?_replicate]at Ks
  grind
 ·intro cr e3 aU fD τ af bn bF;exact b5 cr e3 aU fD τ af bn (st.trans eJ Gr bF)
theorem amQ{T:List Value}{k:Nat}{ev ec:Value}(h:DS k T):gV (gV (gV (gV T k ev) (k+1) ec) k undef) (k+1) undef=T:=by
 obtain⟨ad,af,ax⟩:=h;rw[o0,List.getD_eq_getElem?_getD]at ad af;rw[List.getElem?_eq_getElem (by omega)]at ad;rw[List.getElem?_eq_getElem (by omega)]at af;simp only[Option.getD_some]at ad af;simp only[o1];refine List.ext_getElem (by simp) fun i AM sb=>?_
 grind
theorem XL{o:Oper}{mg kK:Code}{T:List Value}{H:au}{aT:ef}(eD:DS k T)(br:P.underlying a=some iH)(aX:∀ms,iH≠.interface ms)(U:(dr P true (x0 o x t a k mg kK)).f bq T H=some aT):
  ((dr P true mg).f bq T H=some aT)\/(DT a (b3 T x)/\∃ft,(∀i,i≠k->i≠k+1->b3 ft i=b3 T i)/\ft.length=T.length/\(dr P true kK).f bq ft H=some aT):=by
 obtain⟨ad,af,ax⟩:=eD;obtain⟨lE,x2,aB1,U⟩:=Bo (x:=dr P true (.region 0 #[{o with dst:=some k,op:=.typeAssert (.tmp x) t a true,guard:=none},{o with dst:=some (k+1),op:=.extract (.tmp k) 1,guard:=none}] false)) (y:=dr P true (.cond (.tmp (k+1)) (.seq (.region 0 #[{o with dst:=some k,op:=.assign (.const (.tuple #[])),guard:=none},{o with dst:=some (k+1),op:=.assign (.const (.tuple #[])),guard:=none}] false) mg) kK)) U (fun bW XM=>by
  have XM:gE P bq _ true T H (fun T H=>gE P bq _ true T H (fun T H=>some ⟨.normal,T,H⟩))=some bW:=XM
  grind[gE])
 have x2:gE P bq _ true T H (fun T H=>gE P bq {o with dst:=some (k+1),op:=.extract (.tmp k) 1,guard:=none} true T H (fun T H=>some ⟨.normal,T,H⟩))=some lE:=x2;unfold gE at x2;simp only at x2;split at x2
 case h_2=>cases x2
 case h_1 v bw iI=>
 split at x2
 case h_2=>cases x2
 case h_1 b cD la=>
 cases x2;have iI:gf H ((Ap P a true).f (b3 T x))=some (v,bw):=iI;have amR:(Ap P a true).f=mB a (h3 P a):=by simp_all[Ap]
 rw[amR]at iI;have Kt:∀(z:Value) (c:Bool),v=.tuple #[z,.bool c]->b=.bool c/\cD=bw:=by
  intro z c hv;subst hv;have la:(match b3 (gV T k (.tuple #[z,.bool c])) k with|.tuple bV=>gf bw (ot bV.toList 1)|_=>none)=some (b,cD):=la;rw[wN (by omega)]at la;have la:some (Value.bool c,bw)=some (b,cD):=la
  simp_all
 have iK:oZ bq (b3 (gV (gV T k v) (k+1) b) (k+1)) (dr P true (.seq (.region 0 #[{o with dst:=some k,op:=.assign (.const (.tuple #[])),guard:=none},{o with dst:=some (k+1),op:=.assign (.const (.tuple #[])),guard:=none}] false) mg)) (dr P true kK) (gV (gV T k v) (k+1) b) cD=some aT:=U;rw[wN (by simp_all[o1])]at iK;clear U;have eT:∀z,v=.tuple #[z,.bool false]->bw=H->∃ft,(∀i,i≠k->i≠k+1->b3 ft i=b3 T i)/\ft.length=T.length/\(dr P true kK).f bq ft H=some aT:=by intro z hv s9;obtain⟨rfl,rfl⟩:=Kt _ _ hv;subst s9;exact⟨_,fun i bn bF=>by simp_all[Kq,Ne.symm],by simp_all[o1],iK⟩
 have eu:∀(c:Option Value),gf H (c.map fun z=>Value.tuple #[z,.bool false])=some (v,bw)->∃z,v=.tuple #[z,.bool false]/\bw=H:=by
  intro c aA;cases c with
  | none=>cases aA
  | some z=>cases aA;simp_all
 cases ao:b3 T x with
 | nilIface=>rw[ao]at iI;obtain⟨z,hv,s9⟩:=eu _ iI;exact .inr ⟨.inl rfl,eT z hv s9⟩
 | iface aU z=>
  rw[ao]at iI;have iI:gf H (if Nat.beq aU a then some (.tuple #[z,.bool true])else(h3 P a).map fun z=>.tuple #[z,.bool false])=some (v,bw):=iI;by_cases bD:aU=a
  ·subst bD;rw[if_pos (Nat.beq_refl aU)]at iI;left;have iI:some (Value.tuple #[z,.bool true],H)=some (v,bw):=iI;cases iI;obtain⟨rfl,rfl⟩:=Kt _ _ rfl;have XN:(dr P true mg).f bq (gV (gV (gV (gV T k (.tuple #[z,.bool true])) (k+1) (.bool true)) k undef) (k+1) undef) cD=some aT:=iK;rw[amQ ⟨ad,af,ax⟩]at XN;exact XN
  ·rw[if_neg (by simp_all)]at iI;obtain⟨MU,hv,s9⟩:=eu _ iI;exact .inr ⟨.inr ⟨aU,z,rfl,bD⟩,eT MU hv s9⟩
 | _=>rw[ao]at iI;cases iI
theorem nq.guard(dz:en P)(bE:h7 P bq){tt:TypeId}{o:Oper}{A:Code}(bc:∀T H o,(dr P true jw).f bq T H=some o->o.cP=.ret)(zr:∀T H o,(dr P true jw).f bq T H=some o->∃v,(n1 P tt).f (b3 T s) H=some (v,H))
  (br:P.underlying a=some iH) (aX:∀ms,iH≠.interface ms) (bM:lD A=true) (aw:qk P s A=false) (aR:qk P k A=false) (ad:qk P (k+1) A=false) (amS:s<k) (Pz:qW P bq s k x a tt A):nq P bq s k jw (x0 o x t a k A jw) A:=by
 intro T H aT eD hf U;rcases XL eD br aX U with ba|⟨wO,ft,yT,hlen,eT⟩
 ·exact nq.pG dz bE bM aw aR ad T H aT eD hf ba
 ·refine⟨fun ao=>(by grind),fun B σ h w kz ew cJ bk=>?_⟩;obtain⟨v,hv⟩:=zr _ _ _ eT;have AN:b3 ft s=b3 T s:=yT s (by omega) (by omega);refine Pz B σ h T H w kz ew bk eD.2.2 wO ⟨v,by simp_all⟩ _ ?_;intro cr aL aU fD τ a7 bn bF;exact .inr ⟨aU,fD,τ,a7,H,ft,rfl,bn,bF,lP bE true jw _ _ _ hf eT,AN,hlen,eT⟩
theorem ql.guard(dz:en P)(bE:h7 P bq){tt:TypeId}{o:Oper}{A:Code}(bc:∀T H o,(dr P true jw).f bq T H=some o->o.cP=.ret)(zr:∀T H o,(dr P true jw).f bq T H=some o->∃v,(n1 P tt).f (b3 T s) H=some (v,H))
  (br:P.underlying a=some iH) (aX:∀ms,iH≠.interface ms) (bM:lD A=true) (amS:s<k) (Pz:qW P bq s k x a tt A):ql P bq s k jw (x0 o x t a k A jw) A:=by
 intro T H aT eD hf U;rcases XL eD br aX U with ba|⟨wO,ft,yT,hlen,eT⟩
 ·exact ql.pG dz bE bM T H aT eD hf ba
 ·intro B σ h w kz ew cJ bk;obtain⟨v,hv⟩:=zr _ _ _ eT;have AN:b3 ft s=b3 T s:=yT s (by omega) (by omega);refine Pz B σ h T H w kz ew bk eD.2.2 wO ⟨v,by simp_all⟩ _ ?_;intro cr aL aU fD τ a7 bn bF;exact .inr ⟨aU,fD,τ,a7,H,ft,rfl,bn,bF,lP bE true jw _ _ _ hf eT,AN,hlen,eT⟩
end
end Go.Ab
namespace Go.Ab
open Go
section
variable{P:Program}[hy]{bq:hl}
structure Bq (P:Program) (tt hI f el:Nat) (a6:Value) (s b c d:Nat) (l:List Oper):Prop where
 cP:∃bW dt hn fy:Oper,l=[bW,dt,hn,fy]/\(bW.op=.load tt (.tmp s)/\bW.dst=some b/\bW.guard=none)/\(dt.op=.nilCheck (.tmp b)/\dt.dst=some c/\dt.guard=none)/\(hn.op=.fieldAddr hI (.tmp c) f/\hn.dst=some d/\hn.guard=none)/\(fy.op=.store el (.tmp d) (.const a6)/\fy.dst=none/\fy.guard=none)
 a6:u4 P (.const a6)=true
noncomputable def y2(P:Program)(tt hI f el:Nat)(a6 v0:Value)(H:au):Option au:=match (n1 P tt).f v0 H with
 | some (ev,_)=>match r3 ev with
  | some ec=>match (yG P hI f).f ec with
   | some v3=>match gM P el with
    | some n=>match bC n v3 a6 H with
     | some (_,ab)=>some ab
     | none=>none
    | none=>none
   | none=>none
  | none=>none
 | none=>none
theorem PA{t:TypeId}{a v:Value}{H ab:au}(U:(n1 P t).f a H=some (v,ab)):ab=H:=by
 obtain⟨id,off,rfl⟩:=VQ U;unfold n1 at U;split at U
 ·rename_i n _ _;have U:(match rZ H id off n with|some l=>some (Value.agg l.toArray,H)|none=>none)=some (v,ab):=U
  grind
 ·have U:gf H (Ar H id off)=some (v,ab):=U;unfold gf at U
  grind
 grind
section
variable{tt hI f el:Nat}{a6:Value}{s b c d:Nat}{l:List Oper}
theorem XO{o:Oper}(ag:u4 P (.const a6)=true)(bJ:o.op=.store el (.tmp d) (.const a6)){T:List Value}{H:au}:(hU P o.op).f bq T H=match gM P el with|some n=>bC n (b3 T d) a6 H|none=>none:=by
 rw[bJ];have e:hU P (.store el (.tmp d) (.const a6))=xh P (.store el (.tmp d) (.const a6)):=by simp_all[hU,jT,u4,Op.operands]
 rw[e];show(match gM P el with|some n=>(⟨fun T H=>bC n ((ee (.tmp d)).g T) ((ee (.const a6)).g T) H⟩:T6)|none=>⟨fun _ _=>none⟩).f T H=_;cases gM P el<;>rfl
theorem amT(h:Bq P tt hI f el a6 s b c d l){T:List Value}{H:au}{aT:ef}(an:b<T.length)(aA:c<T.length)(aJ:d<T.length)(U:jo P bq l l T H=some aT):y2 P tt hI f el a6 (b3 T s) H=some aT.H:=by
 obtain⟨⟨bW,dt,hn,fy,rfl,⟨dm,da,a3⟩,⟨fj,fl,iJ⟩,⟨db,cp,ga⟩,⟨jg,kT,l6⟩⟩,ag⟩:=h
 replace U:gE P bq bW ((ie _ bW.guard).f T) T H (fun T H=>gE P bq dt ((ie _ dt.guard).f T) T H (fun T H=>gE P bq hn ((ie _ hn.guard).f T) T H (fun T H=>gE P bq fy ((ie _ fy.guard).f T) T H (fun T H=>some ⟨.normal,T,H⟩))))=some aT:=U
 rw[a3,iJ,ga,l6]at U
 replace U:gE P bq bW true T H (fun T H=>gE P bq dt true T H (fun T H=>gE P bq hn true T H (fun T H=>gE P bq fy true T H (fun T H=>some ⟨.normal,T,H⟩))))=some aT:=U
 unfold gE at U;simp only at U;rw[Kp dm,da,fl,cp,kT]at U;unfold y2;split at U
 case h_2=>cases U
 case h_1 ev bw ad=>
 obtain rfl:=PA ad;rw[ad];split at U
 case h_2=>cases U
 case h_1 ec cD af=>
 rw[fj]at af;have af:gf bw (r3 (b3 (gV T b ev) b))=some (ec,cD):=af;rw[wN an]at af;simp only;cases aX:r3 ev with
 | none=>rw[aX]at af;cases af
 | some e3=>
 rw[aX]at af;cases af;split at U
 case h_2=>cases U
 case h_1 v3 iM ax=>
 rw[db]at ax;have ax:gf bw ((yG P hI f).f (b3 (gV (gV T b ev) c ec) c))=some (v3,iM):=ax;rw[wN (by simp_all[o1])]at ax;simp only;cases JK:(yG P hI f).f ec with
 | none=>rw[JK]at ax;cases ax
 | some kR=>
 rw[JK]at ax;cases ax;split at U
 case h_2=>cases U
 case h_1 v4 ui aO=>
 rw[XO ag jg]at aO;have aO:(match gM P el with|some n=>bC n (b3 (gV (gV (gV T b ev) c ec) d v3) d) a6 bw|none=>none)=some (v4,ui):=aO
 grind[wN,o1]
theorem amU(h:Bq P tt hI f el a6 s b c d l){T:List Value}{H ab:au}(an:b<T.length)(aA:c<T.length)(aJ:d<T.length)(U:y2 P tt hI f el a6 (b3 T s) H=some ab):∃aT,jo P bq l l T H=some aT/\aT.H=ab:=by
 obtain⟨⟨bW,dt,hn,fy,rfl,⟨dm,da,a3⟩,⟨fj,fl,iJ⟩,⟨db,cp,ga⟩,⟨jg,kT,l6⟩⟩,ag⟩:=h;show∃aT,gE P bq bW ((ie _ bW.guard).f T) T H (fun T H=>gE P bq dt ((ie _ dt.guard).f T) T H (fun T H=>gE P bq hn ((ie _ hn.guard).f T) T H (fun T H=>gE P bq fy ((ie _ fy.guard).f T) T H (fun T H=>some ⟨.normal,T,H⟩))))=some aT/\aT.H=ab;rw[a3,iJ,ga,l6];show∃aT,gE P bq bW true T H (fun T H=>gE P bq dt true T H (fun T H=>gE P bq hn true T H (fun T H=>gE P bq fy true T H (fun T H=>some ⟨.normal,T,H⟩))))=some aT/\aT.H=ab;unfold y2 at U;split at U
 case h_2=>cases U
 case h_1 ev bw ad=>
 obtain rfl:=PA ad;split at U
 case h_2=>cases U
 case h_1 ec af=>
 split at U
 case h_2=>cases U
 case h_1 v3 ax=>
 split at U
 case h_2=>cases U
 case h_1 n eu=>
 split at U
 case h_2=>cases U
 case h_1 v4 ui aO=>
 cases U;unfold gE;simp only;rw[Kp dm,ad,da,fl,cp,kT];simp only;have bF:(hU P dt.op).f bq (h5 T (some b) ev) bw=some (ec,bw):=by rw[fj];show gf bw (r3 (b3 (gV T b ev) b))=_;rw[wN an,af];rfl
 rw[bF];simp only;have ey:(hU P hn.op).f bq (h5 (h5 T (some b) ev) (some c) ec) bw=some (v3,bw):=by rw[db];show gf bw ((yG P hI f).f (b3 (gV (gV T b ev) c ec) c))=_;rw[wN (by simp_all[o1]),ax];rfl
 rw[ey];simp only;have i6:(hU P fy.op).f bq (h5 (h5 (h5 T (some b) ev) (some c) ec) (some d) v3) bw=some (v4,ab):=by
  rw[XO ag jg,eu];show bC n (b3 (gV (gV (gV T b ev) c ec) d v3) d) a6 bw=_
  grind[wN,o1]
 simp_all
end
end
end Go.Ab
namespace Go.Ab
open Go
section
variable{P:Program}[hy]
structure Gs (P:Program) (g:FuncId) (gn:Func) (tt hI f el:Nat) (a6:Value) (tf:Array Oper):Prop where
 fn:P.funcs[g]?=some gn
 body:∃(tg qX:Nat) (mj ne:Oper),gn.body=some (.seq (.region tg #[mj,ne] false) (.cond (.tmp 2) (.region qX tf false) .skip))/\(∀(A:Act) w,(execOp A.eval mj).run P w=.ok .recover w)/\mj.dst=some 1/\mj.guard=none/\ne.dst=some 2/\ne.guard=none/\
  (∀(A:Act) w aU fD,A.eval (.tmp 1)=.iface aU fD->(execOp A.eval ne).run P w=.ok (.value (.bool true)) w)/\(∀(A:Act) w,A.eval (.tmp 1)=.nilIface->(execOp A.eval ne).run P w=.ok (.value (.bool false)) w)
 bf:gn.ntmps=6
 XP:∀(tmps:Array Value) (w:World),(results gn tmps).run P w=.ok (.tuple #[]) w
 bA:Bq P tt hI f el a6 0 3 4 5 tf.toList
variable{g:FuncId}{gn:Func}{tt hI f el:Nat}{a6:Value}{tf:Array Oper}
theorem Ku{o:Oper}{y:Nat->Option Bool}(h:o.guard=none):Region.wanted o y=true:=by grind[Region.wanted]
theorem amV{c:Frame}{aU:FrameMode}(h:c.mode=aU):c={c with mode:=aU}:=by subst h;rfl
theorem amW(h:Gs P g gn tt hI f el a6 tf)(bb:Value)(w:World):CallsDIn (eF none) 0 P g #[bb] .returning w fun e oD aL=>(∃v,e=.returned v)/\oD=.returning/\aL=w:=by
 obtain⟨tg,qX,mj,ne,an,PB,lQ,x3,hnd,PC,_,amX⟩:=h.body;refine callsDIn_of_wpSIn h.fn an trivial fun Kv ar bD=>?_
 rw[h.bf];refine wpSIn_seq (wpSIn_region ?_);have eU:List.range (#[mj,ne]:Array Oper).size=[0,1]:=rfl;rw[eU];have hZ:(#[mj,ne]:Array Oper)[0]?=some mj:=rfl;have bn:(#[mj,ne]:Array Oper)[1]?=some ne:=rfl;simp only[wpOpsSIn,hZ,bn];rw[if_pos (Ku x3),PB];simp only;have F4:recoverD (Kv::ar)=none:=by simp[recoverD,bD]
 rw[F4];simp only;refine⟨fun _ _=>trivial,fun _ _=>trivial,?_⟩;rw[if_pos (Ku PC),amX _ _ (by simp_all[DR])];simp only;refine wpSIn_cond (t:=false) (by simp_all[DR,Gp]) ?_;simp only[Bool.false_eq_true,if_false];refine wpSIn_of_wpIn rfl (wpIn_skip ?_);refine⟨by simp_all[Kn],.returning,?_,_,h.XP _ _,⟨_,rfl⟩,rfl,rfl⟩;rw[<- amV bD]
theorem amY{bq:hl}(dz:en P)(bE:h7 P bq)(h:Gs P g gn tt hI f el a6 tf){B:Nat}{σ:cQ}{hh:Nat->Option Obj}{H ab:au}{w:World}{bb mo:Value}{aU:TypeId}{fD:Value}(k:gY P B σ hh H w)(l7:cg σ bb mo)(fT:y2 P tt hI f el a6 bb H=some ab)(cJ:gy σ H.next ab.next):
  CallsDIn (eF none) 0 P g #[mo] (.panicking [{v:=.iface aU fD,recovered:=false}]) w fun e oD aL=>(∃v,e=.returned v)/\oD=.panicking [{v:=.iface aU fD,recovered:=true}]/\∃ τ a7,fp B σ hh H w τ a7 ab aL:=by
 obtain⟨tg,qX,mj,ne,an,PB,lQ,x3,hnd,PC,U7,_⟩:=h.body;refine callsDIn_of_wpSIn h.fn an trivial fun Kv ar bD=>?_
 rw[h.bf];refine wpSIn_seq (wpSIn_region ?_);have eU:List.range (#[mj,ne]:Array Oper).size=[0,1]:=rfl;rw[eU];have hZ:(#[mj,ne]:Array Oper)[0]?=some mj:=rfl;have bn:(#[mj,ne]:Array Oper)[1]?=some ne:=rfl;simp only[wpOpsSIn,hZ,bn];rw[if_pos (Ku x3),PB];simp only;have F4:recoverD (Kv::ar)=some (.iface aU fD,{Kv with mode:=.panicking [{v:=.iface aU fD,recovered:=true}]}::ar):=by simp[recoverD,bD]
 rw[F4];simp only;refine⟨fun _ _=>trivial,fun _ _=>trivial,?_⟩;rw[if_pos (Ku PC),U7 _ _ aU fD (by simp_all[DR])];simp only;refine wpSIn_cond (t:=true) (by simp_all[DR,Gp]) ?_;simp only[if_true];refine wpSIn_of_wpIn rfl ?_;rw[lQ,hnd];have bk:bG σ [bb,undef,undef,undef,undef,undef] (#[mo]++Array.replicate (6-(#[mo]:Array Value).size) undef).toList:=l7.cons (.cons .undef (.cons .undef (.cons .undef (.cons .undef (.cons .undef .nil)))));obtain⟨aT,xS,rfl⟩:=amU (bq:=bq) h.bA (T:=[bb,undef,undef,undef,undef,undef]) (show 3<6 by decide) (show 4<6 by decide) (show 5<6 by decide) fT;refine wpIn_mono (Q:=fun e a aL=>e=.normal/\a.defers=[]/\∃ τ a7,fp B σ hh H w τ a7 aT.H aL) (wpIn_region ?_) ?_
 ·refine amF (Q:=fun e ds aL=>e=.normal/\ds=[]/\∃ τ a7,fp B σ hh H w τ a7 aT.H aL) (Pv:=fun t=>t !=1&&t !=2) ?_ _ {tmps:=#[mo]++Array.replicate (6-(#[mo]:Array Value).size) undef,defers:=[]} _ w ?_ ?_ ?_ ?_
  ·obtain⟨bW,dt,hn,fy,aD,⟨dm,da,a3⟩,⟨fj,fl,iJ⟩,⟨db,cp,ga⟩,⟨jg,kT,l6⟩⟩:=h.bA.cP;intro i o aq;have gN:[bW,dt,hn,fy][i]?=some o:=by grind
   match i,gN with
   | 0,gN=>simp_all[Op.operands]
   | 1,gN=>simp_all[Op.operands]
   | 2,gN=>simp_all[Op.operands]
   | 3,gN=>simp_all[Op.operands]
   | n+4,gN=>grind
  ·simp_all[XC,Ne.symm]
  ·grind[Gp]
  ·rfl
  ·rw[List.range_eq_range',<- Array.length_toList];exact FF dz bE tf none tf.toList 0 rfl σ hh _ H w _ aT k cJ bk xS fun τ a7 cr aL bP ca dH=>⟨rfl,ca,τ,a7,dH⟩
 ·rintro e a aL ⟨rfl,aJ,τ,a7,aw⟩;exact⟨aJ,_,rfl,_,h.XP _ _,⟨_,rfl⟩,rfl,τ,a7,aw⟩
end
end Go.Ab
namespace Go.Ab
open Go
section
variable{P:Program}[hy][ep]
variable{g:FuncId}{gn:Func}{tt hI XQ el:Nat}{a6:Value}{tf:Array Oper}
theorem XR(dz:en P){f:FuncId}{fn:Func}{qH i1 i9:Nat}{n8 ops9:Array Oper}{t s k b c d:Nat}{mk D:Oper}{cc:Call}{Bc Kw:Code}
  (hf:P.funcs[f]?=some fn) (an:fn.body=some (.seq (.region qH n8 false) (.seq (.region i1 #[mk,D] false) Bc)))
  (oC:mk.op=.makeFunc (.func g) #[] #[.tmp s]) (XJ:mk.dst=some t) (IJ:mk.guard=none)
  (k9:D.op=.defer cc) (AU:cc.callee=.value (.tmp t)) (amZ:cc.args=#[]) (Pl:D.guard=none) (Pm:D.dst=none)
  (ht:t<fn.ntmps) (ag:k+1<fn.ntmps) (aB2:fn.params.size+fn.nfree<=k) (x4:t<k) (XS:t≠s)
  (am0:qk P k (.region qH n8 false)=false) (am1:qk P (k+1) (.region qH n8 false)=false)
  (jO:Gs P g gn tt hI XQ el a6 tf) (fo:Bq P tt hI XQ el a6 s b c d ops9.toList) (mF:b<=k) (jb:c<=k) (aB3:d<=k)
  (rq:fn.results=#[])
  (PD:∀bq,h7 P bq->ql P bq s k (.seq (.region i9 ops9 false) .ret) Kw Bc):
  Ds P f (.seq (.region qH n8 false) (.seq (.region i1 #[mk] false) Kw)):=by
 intro n hA args H cP v ab U B σ h w fL hG cJ hv;have bE:=hA n (Nat.le_refl _);obtain⟨amc,bW,ev,uf,aA,ao,wP,bJ,hlen⟩:=OD U;rw[hf]at uf;cases uf;cases bJ;refine⟨⟨fn,_,hf,an⟩,callsIn_of_wp_defers hf an trivial ?_⟩;have bk:=Ph hv fn.ntmps;have aB4:fn.ntmps<=(args++List.replicate (fn.ntmps-args.length) undef).length:=by grind
 have PE:∀i,args.length<=i->b3 (args++List.replicate (fn.ntmps-args.length) undef) i=undef:=by grind[o0]
 have am2:=PE k (by omega);have Df:=PE (k+1) (by omega);clear PE;generalize args++List.replicate (fn.ntmps-args.length) undef=lO at*;obtain⟨lE,br,qI,aA⟩:=Bo (x:=dr P true (.region qH n8 false)) (y:=dr P true (.seq (.region i1 #[mk] false) Kw)) aA (fun o bJ=>(uh bE n8.toList n8.toList lO H o hG.c6 bJ).2);have am3:jo P (eM P n) n8.toList n8.toList lO H=some lE:=br;have Gk:=lP bE true _ _ _ _ hG.c6 br;obtain⟨hH,jX,aB5,aA⟩:=Bo (x:=dr P true (.region i1 #[mk] false)) (y:=dr P true Kw) aA (fun o bJ=>(uh bE [mk] [mk] lE.T lE.H o (Gk.wf hG.c6) bJ).2);have PF:jo P (eM P n) [mk] [mk] lE.T lE.H=some hH:=jX;have Kh:=lP bE true _ _ _ _ (Gk.wf hG.c6) jX;have Kx:=lP bE true _ _ _ _ (Kh.wf (Gk.wf hG.c6)) aA;have th:lE.T.length=lO.length:=Gh _ _ _ _ _ am3;have oI:hH.T.length=lO.length:=(Gh _ _ _ _ _ PF).trans th;have rn:hH.T=gV lE.T t (.func (.func g) #[] #[b3 lE.T s]):=by
  have Br:gE P (eM P n) mk ((ie [mk] mk.guard).f lE.T) lE.T lE.H (jo P (eM P n) [mk] [])=some hH:=PF;rw[IJ]at Br;have Br:gE P (eM P n) mk true lE.T lE.H (jo P (eM P n) [mk] [])=some hH:=Br;unfold gE at Br;simp only at Br;split at Br
  ·rename_i ec cD aw;cases Br;have kl:ec=.func (.func g) #[] #[b3 lE.T s]:=by
    unfold hU at aw;split at aw
    ·rw[oC]at aw;have aw:some (Value.func (.func g) #[] #[b3 lE.T s],lE.H)=some (ec,cD):=aw
     simp_all
    grind
   simp_all[h5]
  grind
 have sv:b3 hH.T t=.func (.func g) #[] #[b3 lE.T s]:=by grind[wN]
 have AN:b3 hH.T s=b3 lE.T s:=by simp_all[Kq]
 have am4:DS k hH.T:=by
  refine⟨?_,?_,by omega⟩
  ·rw[rn,Kq (by omega),Gq true k (.region qH n8 false) rfl am0 _ _ _ br];exact am2
  ·rw[rn,Kq (by omega),Gq true (k+1) (.region qH n8 false) rfl am1 _ _ _ br];exact Df
 have XT:gy σ H.next lE.H.next:=cJ.left (Nat.le_trans Kh.ek Kx.ek);refine wpIn_seq ?_;refine wpIn_mono (Bn dz bE true (.region qH n8 false) rfl _ _ _ br σ h w ⟨_,[]⟩ none hG XT bk) ?_;rintro e dm dF ⟨bP,ca,τ,ad,dH,eG⟩;rw[qI]at bP;subst bP;show(Code.seq (.region i1 #[mk,D] false) Bc).wpIn (eF none) 0 P _ dm dF;have eJ:=hG.next eG;have Bs:gy τ lE.H.next hH.H.next:=(cJ.right eG.gZ).left Kx.ek;refine wpIn_seq ?_;refine wpIn_region ?_;rw[List.range_eq_range'];have eU:(#[mk,D]:Array Oper).size=[mk].length+[D].length:=rfl;rw[eU];refine Pg dz bE #[mk,D] [mk] none [D] [mk] 0 rfl (by simp_all) τ ad lE.T lE.H dF dm hH eJ Bs dH PF ?_;intro iZ af da e3 dK bI fm;have qP:=Pj dK t;rw[sv]at qP;obtain⟨mo,l7,qP⟩:∃mo,cg iZ (b3 lE.T s) mo/\da.eval (.tmp t)=.func (.func g) #[] #[mo]:=by
  generalize da.eval (.tmp t)=z at qP;cases qP with
  | func _ _ bK _ fi ao ba _=>have bn:=ao.qG;obtain⟨y,r,bF,ax,aO⟩:=ba.nc;have ey:=aO.qG;subst ey;exact⟨y,ax,by rw[show bK=#[]from Array.ext' bn,show fi=#[y]from Array.ext' bF]⟩
 have hx:=eJ.next fm;have n2:da.defers=[]:=bI.trans ca;refine Xp (i:=1) rfl Pl k9 Pm AU qP ?_;rw[amZ];show Bc.wpIn (eF none) 0 P _ _ e3;have XU:gy iZ hH.H.next bW.H.next:=(cJ.right eG.gZ).right fm.gZ;have XV:fp B σ h H w iZ af hH.H e3:=eG.trans hG XT (fm.trans eJ Bs (fp.refl hx));have am5:=PD _ bE hH.T hH.H bW am4 (Kh.wf (Gk.wf hG.c6)) aA;have jZ:v=.tuple #[]:=by
  rw[rq]at wP;have wP:some (Value.tuple #[])=some v:=wP
  simp_all
 have XW:∀(tmps:Array Value) (w:World),(results fn tmps).run P w=.ok (.tuple #[]) w:=by simp_all[Jo]
 refine wpIn_mono (am5 B iZ af e3 {da with defers:=⟨.fn (.func g) #[mo],#[]++(#[]:Array Operand).map da.eval⟩::da.defers} hx XU dK) ?_;have DU:∀kR,(invoke (.fn (.func g) #[mo]) (#[]++(#[]:Array Operand).map da.eval)).run P kR=.ok (.enter g #[mo]) kR:=by
  intro kR;obtain⟨tg,qX,mj,ne,am6,_⟩:=jO.body;show(callFunc g ((#[]++(#[]:Array Operand).map da.eval)++#[mo])).run P kR=_;have e:(#[]++(#[]:Array Operand).map da.eval)++#[mo]=#[mo]:=by simp
  rw[e];exact IT dz jO.fn am6 _ _
 rintro e a3 kR (⟨bX,b7,Ky,ax,g3,g4⟩|⟨aU,fD,Ky,ax,bw,ft,bX,b7,g3,g4,g5,kO,g7⟩)
 ·have fT:=XV.trans hG (cJ.left Kx.ek) g4;have vt:LeavesIn (eF none) 0 P fn a3.tmps (fun e aL=>∃aQ τ a7,e=.returned aQ/\cg τ v aQ/\fp B σ h H w τ a7 bW.H aL) a3.defers .returning kR:=by rw[b7];show LeavesIn (eF none) 0 P fn a3.tmps _ (_::da.defers) .returning kR;rw[n2];refine leavesIn_cons (by simp) (fun h=>by cases h) (f:=g) (args:=#[mo]) (DU kR) (fun _ _=>trivial) ?_;refine(amW jO mo kR).mono ?_;rintro e oD aL ⟨⟨v0,rfl⟩,rfl,rfl⟩;exact⟨_,XW _ _,_,Ky,ax,rfl,by rw[jZ];exact .tuple _ _ .nil .nil,fT⟩
  cases he:bW.cP with
  | exit id=>simp_all
  | normal=>rw[he]at bX;subst bX;exact vt
  | ret=>rw[he]at bX;subst bX;exact vt
 ·subst bX;have fT:=XV.trans hG (cJ.left Kx.ek) (show fp B iZ af hH.H e3 Ky ax bw kR from g3);have oE:=hx.next g3;obtain⟨Kz,PG,_,am7⟩:=Bo (x:=dr P true (.region i9 ops9 false)) (y:=dr P true .ret) g7 (fun o bJ=>(uh bE ops9.toList ops9.toList ft bw o oE.c6 bJ).2);have PG:jo P (eM P n) ops9.toList ops9.toList ft bw=some Kz:=PG;have rF:bW.H=Kz.H:=by
   have:some (⟨.ret,Kz.T,Kz.H⟩:ef)=some bW:=am7
   grind
  have XX:=amT fo (T:=ft) (by omega) (by omega) (by omega) PG;rw[<- rF,g5,AN]at XX;have am8:gy Ky bw.next bW.H.next:=XU.right g3.gZ;show LeavesIn (eF none) 0 P fn a3.tmps _ a3.defers (.panicking _) kR;rw[b7];show LeavesIn (eF none) 0 P fn a3.tmps _ (_::da.defers) (.panicking _) kR;rw[n2];refine leavesIn_cons (by simp) (fun h=>by cases h) (f:=g) (args:=#[mo]) (DU kR) (fun _ _=>trivial) ?_;refine(amY dz bE jO oE (l7.mono g3.gZ.mono) XX am8).mono ?_;rintro e oD aL ⟨⟨v0,rfl⟩,rfl,am9,aO,ana⟩;have anb:settle (.panicking [{v:=.iface aU fD,recovered:=true}])=.returning:=by rfl
  show LeavesIn (eF none) 0 P fn a3.tmps _ [] (settle _) aL;rw[anb];refine⟨_,XW _ _,_,am9,aO,rfl,by rw[jZ];exact .tuple _ _ .nil .nil,?_⟩;refine fT.trans hG ?_ ana;exact cJ.left (by exact g4.ek)
end
end Go.Ab
namespace Go.Ab
open Go
noncomputable def wQ(P:Program)(f:Nat):Func:=(P.funcs.toList[f]?).getD default
theorem DV{P:Program}{f:Nat}(h:(P.funcs.toList[f]?).isSome=true):P.funcs[f]?=some (wQ P f):=by simp_all[wQ]
def dS:Code->Code|.seq a _=>a|c=>c
def c1:Code->Code|.seq _ b=>b|c=>c
def du:Code->Code|.cond _ a _=>a|c=>c
def DW:Code->Code|.cond _ _ b=>b|c=>c
def ob:Code->Array Oper|.region _ o _=>o|_=>#[]
def nr:Code->Nat|.region i _ _=>i|_=>0
def XY:Code->Operand|.cond c _ _=>c|_=>.tmp 0
def iP(c:Code)(i:Nat):Oper:=((ob c).toList[i]?).getD default
def DX(o:Oper):Call:=match o.op with|.defer c=>c|.call c=>c|_=>default
theorem XZ{P:Program}{mj:Oper}{tys:Array TypeId}(h:mj.op=.call ⟨.builtin .recover,#[],tys⟩)(A:Act)(w:World):(execOp A.eval mj).run P w=.ok .recover w:=by obtain⟨dst,op,c2,bh,after,guard⟩:=mj;simp only at h;subst h;rfl
theorem anc{P:Program}{t aU:TypeId}{fD:Value}{w:World}{ms:Array (String×TypeId)}(ht:P.underlying t=some (.interface ms)):(Op.equal t (.iface aU fD) .nilIface).run P w=.ok false w:=by show(Op.equalIn (9999+1) t (.iface aU fD) .nilIface).run P w=_;generalize 9999=d;simp only[Op.equalIn,Sem.run_bind,run_underlying ht,Result.andThen_ok,Sem.run_pure]
theorem ane{P:Program}{t:TypeId}{w:World}{ms:Array (String×TypeId)}(ht:P.underlying t=some (.interface ms)):(Op.equal t .nilIface .nilIface).run P w=.ok true w:=by show(Op.equalIn (9999+1) t .nilIface .nilIface).run P w=_;generalize 9999=d;simp only[Op.equalIn,Sem.run_bind,run_underlying ht,Result.andThen_ok,Sem.run_pure]
theorem X0{P:Program}{ne:Oper}{t yt:TypeId}{ms:Array (String×TypeId)}(h:ne.op=.binOp .neq t (.tmp 1) (.const .nilIface) yt)(ht:P.underlying t=some (.interface ms)):
  (∀(A:Act) w aU fD,A.eval (.tmp 1)=.iface aU fD->(execOp A.eval ne).run P w=.ok (.value (.bool true)) w)/\(∀(A:Act) w,A.eval (.tmp 1)=.nilIface->(execOp A.eval ne).run P w=.ok (.value (.bool false)) w):=by
 obtain⟨dst,op,c2,bh,after,guard⟩:=ne;simp only at h;subst h;have aA:∀A:Act,A.eval (.const .nilIface)=.nilIface:=fun _=>rfl
 simp_all[execOp,eqGuard,binOp,anc,ane]
end Go.Ab
