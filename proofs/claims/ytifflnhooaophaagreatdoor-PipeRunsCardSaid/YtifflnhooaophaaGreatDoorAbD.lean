/- texts of the kp, du behind the jV -/
import Derived.DefersIn
import Derived.RecoverIn
import Derived.Calls
import Derived.OrdersIn
import Derived.Tactics
import Derived.Tactics2
import Derived.Test.YtifflnhooaophaaGreatDoorAbC
set_option linter.unusedVariables false
set_option linter.unusedSimpArgs false
set_option linter.unusedSectionVars false
noncomputable section
open List Nat
namespace Go.Ab
open Go
variable{A Ic Eb Ie B Bc C jR Cr D H P Q T fa a0 args fb cap capt cc f first fn a8 g gc gn h i nO i1 i4 qK Ec qL be mk bm ops4 pj aY eM t v w σ}{a:Act}
def jS:Code->Bool
 | .skip=>true
 | .region _ _ _=>true
 | .seq a b=>jS a&&jS b
 | .cond _ a b=>jS a&&jS b
 | .ret=>true
 | _=>false
section
variable[gi]
def PU(B:Nat)(σ:eH)(h:Nat->Option Obj)(H:an)(w:World)(ds:List Deferred)(aY:eG):Exit->Act->World->Prop:=
 fun e a aE=>e=wh aY.cG/\a.defers=ds/\∃ τ aH,bt τ aY.T a.tmps.toList/\e2 B σ h H w τ aH aY.H aE
theorem wE(F:cl P)(n:gB P be)(c6:Bool):∀(c:Code),jS c=true->∀(T:aj) (H:an) (aY:eG),(dB P c6 c).f be T H=some aY->
  ∀(σ:eH) (h:Nat->Option Obj) (w:World) (a:Act) (r:Option Nat),fV P B σ h H w->fO σ H.next aY.H.next->bt σ T a.tmps.toList->c.wpIn (dZ r) 0 P (PU B σ h H w a.defers aY) a w:=by
 intro c;induction c with
 | skip=>intro _ T H aY i σ h w a r k _ l;cases i;exact wpIn_skip ⟨rfl,rfl,σ,h,l,e2.refl k⟩
 | ret=>intro _ T H aY i σ h w a r k _ l;cases i;exact wpIn_ret ⟨rfl,rfl,σ,h,l,e2.refl k⟩
 | region id m d=>
  intro _ T H aY i σ h w a r k b l;cases d with
  | true=>exact Oq F n m id r k b l i fun p τ aH s aE bO q2 o=>⟨by rw[p];rfl,q2,τ,aH,bO,o⟩
  | false=>refine wpIn_region ?_;have L:=qE n m.toList _ _ _ _ k.cj i;rw[range_eq_range',<- Array.length_toList];exact Ai F n m r m.toList 0 aW σ h T H w a aY k b l i fun τ aH s aE bO q2 o=>⟨by rw[L.2];rfl,q2,τ,aH,bO,o⟩
 | seq x y u I=>
  intro j T H aY i σ h w a r k b l;have j:(jS x&&jS y)=true:=j;rw[Bool.and_eq_true]at j;obtain⟨bP,v,t⟩:=pb i;have M:=j2 n c6 x _ _ _ k.cj v;refine wpIn_seq ?_;rcases t with⟨p,t⟩|⟨p,rfl⟩
  have J:=j2 n c6 y _ _ _ (M.wf k.cj) t;refine wpIn_mono (u j.1 _ _ _ v σ h w a r k (b.left J.dI) l) ?_;rintro e s aE ⟨bO,q2,τ,aH,o,z⟩;rw[p]at bO;subst bO;refine wpIn_mono (I j.2 _ _ _ t τ aH aE s r (k.next z) (b.right z.fT) o) ?_;rintro e mP ca ⟨N,S,V,C,W,X⟩;exact⟨N,S.trans q2,V,C,W,z.trans k (b.left J.dI) X⟩;refine wpIn_mono (u j.1 _ _ _ v σ h w a r k b l) ?_;rintro e s aE q;have bO:=q.1;cases K:aY.cG with
  | normal=>simp_all
  | exit id=>rw[K]at bO;subst bO;exact q
  | ret=>rw[K]at bO;subst bO;exact q
 | cond c x y u I=>
  intro j T H aY i σ h w a r k b l;have j:(jS x&&jS y)=true:=j;have i:mq be ((da c).g T) (dB P c6 x) (dB P c6 y) T H=some aY:=i;unfold mq at i
  grind[wpIn_cond,Di]
 | _=>intro j;cases j
theorem If{P:Program}{B:Nat}{be:hY}{Q:Exit->Act->World->Prop}(s:cl P)(g:gB P be)(bm:Array Oper)(all:List Oper)(r:Option Nat)(d:List Oper):∀(l:List Oper) (i:Nat),bm.toList.drop i=l++d->(∀o∈l,o.guard=none)->
  ∀(σ:eH) (h:Nat->Option Obj) (T:aj) (H:an) (w:World) (a:Act) (aY:eG),fV P B σ h H w->fO σ H.next aY.H.next->bt σ T a.tmps.toList->hZ P be all l T H=some aY->
  (∀ τ aH dP aE,bt τ aY.T dP.tmps.toList->dP.defers=a.defers->e2 B σ h H w τ aH aY.H aE->wpOpsIn (dZ r) 0 P bm Q (range' (i+l.length) d.length) dP aE)->wpOpsIn (dZ r) 0 P bm Q (range' i (l.length+d.length)) a w
 | [],i,y,m,σ,h,T,H,w,a,aY,k,c,j,n,p=>by
  cases n;have:=p σ h a w j rfl (e2.refl k)
  simp_all
 | o::l,i,y,m,σ,h,T,H,w,a,aY,k,c,j,n,p=>by
  have z:bm[i]?=some o:=by
   have:(bm.toList.drop i)[0]?=some o:=aT
   grind
  have q:bm.toList.drop (i+1)=l++d:=by
   have:(bm.toList.drop i).drop 1=l++d:=aT
   grind[drop_drop]
  have b:fB P be o ((gF all o.guard).f T) T H (hZ P be all l)=some aY:=n;rw[m o (.head _)]at b;have b:fB P be o true T H (hZ P be all l)=some aY:=b;unfold fB at b;have e:(o::l).length+d.length=(l.length+d.length)+1:=aT
  rw[e,range'_succ];simp only[wpOpsIn,z];have C:Region.wanted o (yielded bm a.tmps)=true:=by simp_all[Region.wanted]
  rw[if_pos C];simp only at b;split at b;rename_i v t ah;have F:=xO g k.cj ah;have u:=qE g all l _ t aY (F.wf k.cj) b;refine C6 s g o k (c.left u.1.dI) j ah ?_;intro ap τ aH aE I st;obtain⟨b5,ax⟩:=sl (j.mono st.fT.mono) o.dst I;refine If s g bm all r d l (i+1) q (fun x J=>m x (mem_cons_of_mem _ J)) τ aH _ t aE _ aY (k.next st) (c.right st.fT) b5 b ?_;intro K L dP ca bO q2 M;rw[show i+1+l.length=i+(o::l).length by omega];exact p K L dP ca bO (q2.trans ax) (st.trans k (c.left u.1.dI) M)
  grind
theorem AJ(T:aj)(d:Option Tmp)(v:Value):(gz T d v).length=T.length:=by
 cases d with
 | none=>rfl
 | some d=>show(fZ T d v).length=_;simp_all[mu]
theorem AK(all:List Oper):∀(l:List Oper) (T:aj) (H:an) (aY:eG),hZ P be all l T H=some aY->aY.T.length=T.length
 | [],T,H,aY,a=>by cases a;rfl
 | o::l,T,H,aY,a=>by have a:fB P be o ((gF all o.guard).f T) T H (hZ P be all l)=some aY:=a;unfold fB at a;split at a;split at a;rw[AK all l _ _ _ a,AJ];cases a;rw[AK all l _ _ _ a,AJ]
theorem uW{d:Option Tmp}{i:Nat}(h:d≠some i):bS (gz T d v) i=bS T i:=by
 cases d with
 | none=>rfl
 | some d=>
  show bS (fZ T d v) i=bS T i
  simp_all[mu,mr]
theorem Ed(i:Nat)(all:List Oper):∀(l:List (Oper×mp)) (T:aj) (H:an) (b:List kG) (aY:eG),(∀o∈l,o.1.dst≠some i)->m6 P be all l T H b=some aY->bS aY.T i=bS T i
 | [],T,H,b,aY,_,a=>by cases a;rfl
 | o::l,T,H,b,aY,a2,a=>by
  have a:ou P be o.1 o.2 ((gF all o.1.guard).f T) T H b (m6 P be all l)=some aY:=a;have c:=a2 o (.head _);have d:=fun x e=>a2 x (mem_cons_of_mem _ e)
  unfold ou at a;split at a;split at a;split at a;rw[Ed i all l _ _ _ _ d a,uW c];cases a;cases a;rw[Ed i all l _ _ _ _ d a,uW c]
theorem Ig(b:bt σ args fb.toList)(m:Nat):bt σ (args++replicate (m-args.length) undef) (fb++Array.replicate (m-fb.size) undef).toList:=by
 have a:args.length=fb.size:=by have:=b.length;omega
 rw[Array.toList_append,Array.toList_replicate,a];refine b.append ?_;generalize m-fb.size=n;induction n with
 | zero=>exact .nil
 | succ n c=>exact bV.undef.cons c
theorem Ih(c:bt σ T a.tmps.toList)(i:Nat):bV σ (bS T i) (a.eval (.tmp i)):=by
 have b:=c.getD i;have d:a.tmps.toList.getD i undef=a.tmps.getD i undef:=a1
 rw[d,<- mr]at b;exact b
theorem PV(c:bm[i]?=some D)(h:D.guard=none)(i3:D.op=.defer cc)(b:D.dst=none)
  (j:cc.callee=.value a8) (k:a.eval a8=.func (.func g) first cap) (d:Q .normal {a with defers:=⟨.fn (.func g) cap,first++cc.args.map a.eval⟩::a.defers} w):wpOpsIn (dZ none) 0 P bm Q (range' i 1) a w:=by
 show wpOpsIn (dZ none) 0 P bm Q [i] a w;simp only[wpOpsIn,c];have f:Region.wanted D (yielded bm a.tmps)=true:=by simp_all[Region.wanted]
 rw[if_pos f];refine⟨fun _ _=>trivial,?_⟩;have e:(D.semAt (dZ none).round a.eval).run P w=.ok (.defer ⟨.fn (.func g) cap,first++cc.args.map a.eval⟩) w:=by simp_all[Oper.semAt_none,execOp,resolve,Deferred.ofValue]
 rw[e,Oper.uponIn_defer,b];exact d
theorem wF{x:zS}{y:zS}(a:qy (x.f be T H) (fun T H=>y.f be T H)=some aY)(b:∀o,x.f be T H=some o->o.cG=.normal):∃bP,x.f be T H=some bP/\bP.cG=.normal/\y.f be bP.T bP.H=some aY:=by grind[pb]
end
section
variable[gi][ct]
theorem PW(b:bt σ T a.tmps.toList):∀(l:List Operand),(∀x∈l,∃i,x=.tmp i)->bt σ (iK l T) (l.map a.eval)
 | [],_=>.nil
 | x::l,h=>by obtain⟨i,rfl⟩:=h x (.head _);exact(Ih b i).cons (PW b l fun y c=>h y (mem_cons_of_mem _ c))
theorem PX:∀(l:List Operand),(∀x∈l,∃i,x=.tmp i/\bS fa i=bS T i)->iK l fa=iK l T
 | [],_=>rfl
 | x::l,h=>by obtain⟨i,rfl,aB⟩:=h x (.head _);show bS fa i::iK l fa=bS T i::iK l T;rw[aB,PX l fun y a=>h y (mem_cons_of_mem _ a)]
theorem Ii(o:cl P)(d:gB P be)(p:jS A=true)(u:(dB P true (.seq A jR)).f be T H=some aY)
  (k:fV P B σ h H w) (c:fO σ H.next aY.H.next) (q:bt σ T a.tmps.toList) (r:a.defers=[])
  (b:aY.cG≠.normal->∀ τ aH dP aE,bt τ aY.T dP.tmps.toList->dP.defers=[]->e2 B σ h H w τ aH aY.H aE->Q (wh aY.cG) dP aE)
  (g:(∃id,aY.cG=.exit id)->False)
  (next:∀bP:eG,(dB P true jR).f be bP.T bP.H=some aY->fG H bP.H->fG bP.H aY.H->∀ τ aH dP aE,bt τ bP.T dP.tmps.toList->dP.defers=[]->e2 B σ h H w τ aH bP.H aE->Cr.wpIn (dZ none) 0 P Q dP aE):
  (Code.seq A Cr).wpIn (dZ none) 0 P Q a w:=by
 have v:=u;obtain⟨bP,j,i⟩:=pb v;have s:=j2 d true A _ _ _ k.cj j;refine wpIn_seq ?_;rcases i with⟨l,i⟩|⟨l,rfl⟩
 have t:=j2 d true jR _ _ _ (s.wf k.cj) i;refine wpIn_mono (wE o d true A p _ _ _ j σ h w a none k (c.left t.dI) q) ?_;rintro e dP aE ⟨bO,q2,τ,aH,m,n⟩;rw[l]at bO;subst bO;exact next bP i s t τ aH dP aE m (q2.trans r) n
 refine wpIn_mono (wE o d true A p _ _ _ j σ h w a none k c q) ?_;rintro e dP aE ⟨bO,q2,τ,aH,m,n⟩;have:=b l τ aH dP aE m (q2.trans r) n;subst bO;cases x:aY.cG with
 | normal=>simp_all
 | exit id=>simp_all
 | ret=>rw[x]at this;exact this
theorem adC(kd:cl P)
  (hf:P.funcs[f]?=some fn) (d5:fn.body=some (.seq Ic (.seq Eb (.seq Ie (.seq (.region i4 ops4 false) (.seq (.region qK pj true) .ret))))))
  (j5:jS Ic=true) (b5:jS Eb=true) (ax:jS Ie=true) (g0:ops4.toList=qL++[D]) (adD:∀o∈qL,o.guard=none)
  (i3:D.op=.defer cc) (tk:cc.callee=.value (.func g)) (Ij:D.guard=none) (Ik:D.dst=none)
  (lM:C.op=.call cc) (adE:C.guard=none) (adF:C.dst=none)
  (OC:∀x∈cc.args.toList,∃i,x=.tmp i/\∀o∈oq P pj.toList,o.1.dst≠some i)
  (hg:P.funcs[g]?=some gn) (Il:gn.body=some gc) (adG:jS gc=true) (adH:∀args H,ct.h3 g args H=none) (adI:ct.ke g=none):
  xV P f (.seq Ic (.seq Eb (.seq Ie (.seq (.region i4 qL.toArray false) (.seq (.region qK pj true) (.seq (.region Ec #[C] false) .ret)))))):=by
 intro n hA args H I v E g9 B σ h w fb k s hv;have z:=hA n (Nat.le_refl _);obtain⟨adJ,bP,fs,ts,q,ey,X,J,_⟩:=HB g9;rw[hf]at ts;cases ts;cases J;refine⟨⟨fn,_,hf,d5⟩,callsIn_of_wp_defers hf d5 trivial ?_⟩;have K:=Ig hv fn.ntmps;generalize args++replicate (fn.ntmps-args.length) undef=oz at*;have Im:∀ {L:eH} {aH:Nat->Option Obj} {H0:an} {g6:World},fV P B L aH H0 g6->e2 B σ h H w L aH H0 g6->fO σ H.next H0.next->bP.cG≠.normal->∀ τ h2 dP aE,bt τ bP.T dP.tmps.toList->dP.defers=[]->e2 B L aH H0 g6 τ h2 bP.H aE->
   bodyPostDIn (dZ none) 0 P fn (fun e aE=>∃ap τ aH,e=.returned ap/\bV τ v ap/\e2 B σ h H w τ aH bP.H aE) (wh bP.cG) dP aE:=by
  intro L aH H0 g6 kJ md uG o7 τ h2 dP aE fu q2 jM;have i5:=kJ.next jM;have adK:LeavesIn (dZ none) 0 P fn dP.tmps (fun e aE=>∃ap τ aH,e=.returned ap/\bV τ v ap/\e2 B σ h H w τ aH bP.H aE) dP.defers .returning aE:=by rw[q2];obtain⟨ap,t,M⟩:=Do i5 fu X;exact⟨ap,t,ap,τ,h2,rfl,M,md.trans k uG jM⟩
  cases N:bP.cG with
  | normal=>simp_all
  | exit id=>simp_all
  | ret=>exact adK
 refine Ii kd z j5 q k s K rfl (Im k (e2.refl k) (fun i a b=>absurd b (Nat.not_lt.2 a))) (fun⟨id,N⟩=>ey id N) ?_;clear q K;intro PY q AL adL adM c8 a0 g6 K adN md;have kJ:=k.next md;have uG:fO σ H.next PY.H.next:=s.left adL.dI;have eM:=s.right md.fT;refine Ii kd z b5 q kJ eM K adN (Im kJ md uG) (fun⟨id,N⟩=>ey id N) ?_;clear q K;intro et q Ee PZ awT h1 i2 aM K xH cr;have i5:=kJ.next cr;have si:fO adM PY.H.next et.H.next:=eM.left PZ.dI;have r1:=eM.right cr.fT;have pc:=md.trans k uG cr;have eA:fO σ H.next et.H.next:=s.left PZ.dI;refine Ii kd z ax q i5 r1 K xH (Im i5 pc eA) (fun⟨id,N⟩=>ey id N) ?_;clear q K;intro cP q jr adO P0 h2 mP ca K uX ej;have j1:=i5.next ej;have r2:=r1.right ej.fT;have tr:=pc.trans k eA ej;have fC:fO σ H.next cP.H.next:=s.left adO.dI;obtain⟨fN,eh,awU,q⟩:=wF (x:=dB P true (.region i4 qL.toArray false)) (y:=dB P true (.seq (.region qK pj true) (.seq (.region Ec #[C] false) .ret))) q (fun o J=>(qE z _ _ cP.T cP.H o j1.cj J).2);have adP:hZ P (ea P n) qL qL cP.T cP.H=some fN:=by have yj:hZ P (ea P n) qL.toArray.toList qL.toArray.toList cP.T cP.H=some fN:=eh;omega
 have xG:=j2 z true _ _ _ _ j1.cj eh;have Qa:=j2 z true _ _ _ _ (xG.wf j1.cj) q;refine wpIn_seq ?_;refine wpIn_region ?_;rw[range_eq_range'];have lI:ops4.size=qL.length+[D].length:=by grind[length_append]
 rw[lI];have wm:fO P0 cP.H.next fN.H.next:=r2.left Qa.dI;refine If kd z ops4 qL none [D] qL 0 aT adD P0 h2 cP.T cP.H ca mP fN j1 wm K adP ?_;intro In yj a3 sj adQ Qb As;have ma:=j1.next As;have eK:=r2.right As.fT;have t3:=tr.trans k fC As;have g3:fO σ H.next fN.H.next:=s.left Qa.dI;refine PV ?_ Ij i3 Ik tk (cap:=#[]) rfl ?_
 ·have:ops4.toList[0+qL.length]?=some D:=aT
  grind
 show(Code.seq (.region qK pj true) .ret).wpIn (dZ none) 0 P _ _ sj;obtain⟨p,iL,adR,q⟩:=wF (x:=dB P true (.region qK pj true)) (y:=dB P true (.seq (.region Ec #[C] false) .ret)) q (fun o J=>by
  have J:l2 P (ea P n) pj.toList fN.T fN.H=some o:=J;unfold l2 at J;split at J
  ·have:∀(l:List (Oper×mp)) (T:aj) (H:an) (fm:List kG),m6 P (ea P n) pj.toList l T H fm=some o->o.cG=.normal:=by
    intro l;induction l with
    | nil=>intro T H fm h;cases h;rfl
    | cons x l v2=>
     intro T H fm h;have h:ou P (ea P n) x.1 x.2 ((gF pj.toList x.1.guard).f T) T H fm (m6 P (ea P n) pj.toList l)=some o:=h;unfold ou at h
     grind
   grind
  grind)
 have Qc:∃fm,m6 P (ea P n) pj.toList (oq P pj.toList) fN.T fN.H fm=some p:=by
  have AM:l2 P (ea P n) pj.toList fN.T fN.H=some p:=iL
  grind[l2]
 obtain⟨awV,Qc⟩:=Qc;have Qd:=j2 z true _ _ _ _ (ma.cj) iL;have Qe:=j2 z true _ _ _ _ (Qd.wf ma.cj) q;have xR:fO In fN.H.next p.H.next:=eK.left Qe.dI;obtain⟨uY,j0,awW,q⟩:=wF (x:=dB P true (.region Ec #[C] false)) (y:=dB P true .ret) q (fun o J=>(qE z [C] [C] p.T p.H o (Qd.wf ma.cj) J).2);have adS:bP=⟨.ret,uY.T,uY.H⟩:=by
  have:some (⟨.ret,uY.T,uY.H⟩:eG)=some bP:=q
  grind
 have r:fB P (ea P n) C ((gF [C] C.guard).f p.T) p.T p.H (hZ P (ea P n) [C] [])=some uY:=j0;rw[adE]at r;have r:fB P (ea P n) C true p.T p.H (hZ P (ea P n) [C] [])=some uY:=r;unfold fB at r;simp only at r;split at r
 case h_2=>cases r
 case h_1 pU wG u=>
 have m7:uY=⟨.normal,p.T,wG⟩:=by have:some (⟨.normal,gz p.T C.dst pU,wG⟩:eG)=some uY:=r;rw[adF]at this;cases this;rfl
 subst m7;subst adS;have j:∃I,ea P n (.call g (iK cc.args.toList p.T) p.H)=some ⟨I,[pU],wG⟩:=by
  unfold gZ at u;split at u
  ·rw[lM]at u;unfold td at u;simp only[tk]at u;obtain⟨z8,I,ht,Qf⟩:=Ah u;have adT:some (ut.fn g (gx [] (gx (iK cc.args.toList p.T) [])))=some z8:=ht;cases adT;refine⟨I,?_⟩;have Qf:ea P n (.call g (gx [] (gx (iK cc.args.toList p.T) [])) p.H)=some ⟨I,[pU],wG⟩:=Qf
   grind[gM]
  grind
 obtain⟨adU,j⟩:=j;cases n with
 | zero=>cases j
 | succ m=>
 have j:(match ct.h3 g (iK cc.args.toList p.T) p.H with|some v=>some (⟨.ret,[v],p.H⟩:eG)|none=>match ct.ke g with|some c=>oB P g c (ea P m) (iK cc.args.toList p.T) p.H|none=>(rs P g).f (ea P m) (iK cc.args.toList p.T) p.H)=some ⟨adU,[pU],wG⟩:=j;rw[adH,adI]at j;simp only at j;obtain⟨awX,awY,Qg,awZ,Qh,Qi,adV,aw0,adW,adX⟩:=Hy j;rw[hg]at Qh;cases Qh;rw[Il]at Qi;cases Qi;cases adX;have adY:=hA m (le_succ m);have ks:iK cc.args.toList p.T=iK cc.args.toList fN.T:=PX _ fun x ey=>by grind[Ed]
 have adZ:bt In (iK cc.args.toList fN.T) (cc.args.map a3.eval).toList:=by grind[Array.toList_map,PW]
 refine wpIn_seq ?_;refine wpIn_mono (wE kd z true (.region qK pj true) rfl _ _ _ iL In yj sj {a3 with defers:=_::a3.defers} none ma xR adQ) ?_;rintro e a5 Ef ⟨bO,q2,Io,AM,fu,jM⟩;rw[adR]at bO;subst bO;refine wpIn_ret ?_;have Ip:=ma.next jM;have t5:=t3.trans k g3 jM;have g5:fO σ H.next p.H.next:=s.left Qe.dI;have ad0:=eK.right jM.fT;show LeavesIn (dZ none) 0 P fn a5.tmps _ a5.defers .returning Ef;rw[q2];show LeavesIn (dZ none) 0 P fn a5.tmps _ (_::a3.defers) .returning Ef;rw[Qb,uX];refine leavesIn_cons aW (fun h=>by cases h) (f:=g) (args:=(#[]++cc.args.map a3.eval)++#[]) ?_ (fun _ _=>trivial) ?_
 ·exact C1 kd hg Il _ _
 have ad1:bt Io (iK cc.args.toList p.T) ((#[]++cc.args.map a3.eval)++#[]).toList:=by
  rw[ks];have:=adZ.mono jM.fT.mono
  grind
 have ad2:=Ig ad1 gn.ntmps;refine(callsDIn_of_wp (R:=fun e aE=>∃v0 τ aH,e=.returned v0/\e2 B Io AM p.H Ef τ aH Qg.H aE) hg Il trivial ?_).mono ?_
 ·refine wpIn_mono (wE kd adY true gc adG _ _ _ adV Io AM Ef ⟨_,[]⟩ none Ip ad0 ad2) ?_;rintro e Iq ad3 ⟨S,Qj,V,W,ad4,Ir⟩;have Is:=Ip.next Ir;obtain⟨ap,t,M⟩:=Do Is ad4 adW;cases N:Qg.cG with
  | exit id=>simp_all
  | normal=>rw[N]at S;subst S;exact⟨Qj,ap,t,ap,V,W,rfl,Ir⟩
  | ret=>rw[N]at S;subst S;exact⟨Qj,ap,t,ap,V,W,rfl,Ir⟩
 ·rintro e rC ad3 ⟨rfl,v0,V,W,rfl,F⟩;have Is:=Ip.next F;obtain⟨ap,t,M⟩:=Do Is (fu.mono F.fT.mono) X;exact⟨ap,t,ap,V,W,rfl,M,t5.trans k g5 F⟩
end
end Go.Ab
namespace Go.Ab
open Go
def ad5:Code->Code
 | .seq a (.seq b (.seq c (.seq (.region i4 ops4 false) (.seq d .ret))))=>
  match ops4.toList.reverse with
  | D::l=>match D.op with
   | .defer cc=>.seq a (.seq b (.seq c (.seq (.region i4 l.reverse.toArray false) (.seq d (.seq (.region i4 #[{D with op:=.call cc,dst:=none}] false) .ret)))))
   | _=>.skip
  | []=>.skip
 | _=>.skip
def tH(o:Oper)(x:Tmp)(t a:TypeId)(k:Tmp)(lo jp:Code):Code:=
 .seq (.region 0 #[{o with dst:=some k,op:=.typeAssert (.tmp x) t a true,guard:=none},{o with dst:=some (k+1),op:=.extract (.tmp k) 1,guard:=none}] false)
  (.cond (.tmp (k+1)) (.seq (.region 0 #[{o with dst:=some k,op:=.assign (.const (.tuple #[])),guard:=none},{o with dst:=some (k+1),op:=.assign (.const (.tuple #[])),guard:=none}] false) lo) jp)
def ad6(t a3 c:TypeId)(k:Tmp):Code->Code
 | .seq d (.seq (.region i1 pV d1) (.seq (.seq e (.cond f g .skip)) (.seq ad7 (.seq (.seq h (.seq i (.cond j a .skip))) b))))=>
  match pV.toList with
  | mk::_=>.seq d (.seq (.region i1 #[mk] d1) (.seq (.seq e (.cond f (tH mk 1 t a3 k g a) .skip)) (.seq ad7 (tH mk 1 t c k (.seq (.seq h (.seq i (.cond j a .skip))) b) a))))
  | []=>.skip
 | _=>.skip
def ad8(t a:TypeId)(k:Tmp):Code->Code
 | .seq d (.seq (.region i1 pV d1) (.seq e (.seq A (.seq (.seq f (.cond c R .skip)) b))))=>
  match pV.toList with
  | mk::_=>.seq d (.seq (.region i1 #[mk] d1) (.seq e (tH mk 1 t a k (.seq A (.seq (.seq f (.cond c R .skip)) b)) R)))
  | []=>.skip
 | _=>.skip
def uZ(P:Program)(f:FuncId)(T:Code->Code):Code:=match P.funcs.toList[f]? with
 | some fn=>match fn.body with
  | some c=>T c
  | none=>.skip
 | none=>.skip
end Go.Ab
namespace Go.Ab
open Go
variable{P d e i j m s t k8 v w x}{a:Act}
theorem Qk(h:i≠j):(a.put (some i) v).eval (.tmp j)=a.eval (.tmp j):=by simp_all[Act.put,Act.eval]
theorem yk{i:Tmp}(h:i<a.tmps.size):(a.put (some i) v).eval (.tmp i)=v:=by simp_all[Act.put,Act.eval]
theorem AN:(a.put d v).tmps.size=a.tmps.size:=by cases d<;>simp[Act.put]
theorem Eg:(a.put d v).defers=a.defers:=by cases d<;>rfl
theorem Ql(w:World)(o:Go.Obj):RowKit.Below w.heap.size w (w.alloc o):=
 ⟨rfl,rfl,rfl,a1,fun k a=>by show(w.heap.push o)[k]?=_;grind⟩
theorem ad9{a:TypeId}(h:P.underlying P.rt.typeAssertionError=some (.pointer e)):
  ∃dR o,(runtimePanic (α:=Value) (.typeAssertion s d a m)).run P w=.halt (.panic (.iface P.rt.typeAssertionError dR)) (w.alloc o):=by
 refine⟨.pointer (some ⟨w.heap.size,0,none⟩),?_⟩;simp only[runtimePanic,Sem.run_bind,run_program,elemOf,run_underlying h,Result.andThen_ok,run_newObj_alloc];exact⟨_,rfl⟩
theorem aea{a:TypeId}(h:P.underlying P.rt.typeAssertionError=some (.pointer e))(c:P.underlying a=some k8)(f:∀ms,k8≠.interface ms)
  (b:x=.nilIface\/∃u v,x=.iface u v/\u≠a):∃dR o,(Instr.typeAssert x t a false).run P w=.halt (.panic (.iface P.rt.typeAssertionError dR)) (w.alloc o):=by
 have g:∀s d m,∃dR o,(runtimePanic (.typeAssertion s d a m)).run P w=.halt (.panic (.iface P.rt.typeAssertionError dR)) (w.alloc o):=fun s d m=>ad9 h
 rcases b with rfl|⟨u,v,rfl,i⟩
 simp_all[Instr.typeAssert,run_underlying]
 simp_all[Instr.typeAssert,run_underlying]
theorem Qm{b:Act}(ah:a.tmps.size=b.tmps.size)(h:a.eval (.tmp t)=b.eval (.tmp t)):(a.put d v).eval (.tmp t)=(b.put d v).eval (.tmp t):=by
 cases d with
 | none=>exact h
 | some i=>grind[yk,Act.put,Act.eval,Qk]
theorem aeb{bm:Array Oper}{It:Tmp->Bool}{Q:Exit->List Deferred->World->Prop}
  (j:∀(i:Nat) (o:Oper),bm[i]?=some o->o.guard=none/\(∀ag b,o.op≠.select ag b)/\∀x∈o.op.operands,∀t,x=.tmp t->It t=true):
  ∀(l:List Nat) (a b:Act) (w:World),(∀t,It t=true->a.eval (.tmp t)=b.eval (.tmp t))->a.tmps.size=b.tmps.size->a.defers=b.defers->
   wpOpsIn (dZ none) 0 P bm (fun e a w=>Q e a.defers w) l a w->wpOpsIn (dZ none) 0 P bm (fun e a w=>Q e a.defers w) l b w:=by
 intro l;induction l with
 | nil=>intro a b w _ _ a2 h;show Q _ b.defers w;rw[<- a2];exact h
 | cons i l q=>
  intro a b w s ah a2 h;unfold wpOpsIn at h⊢;cases u:bm[i]? with
  | none=>grind
  | some o=>
   simp only[u]at h⊢;obtain⟨H,k,B⟩:=j i o u;have C:∀c:Act,Region.wanted o (yielded bm c.tmps)=true:=fun c=>by simp_all[Region.wanted]
   rw[if_pos (C _)]at h⊢;refine⟨fun _ _=>trivial,?_⟩;have f:=h.2;have e:(o.semAt (dZ none).round b.eval)=(o.semAt (dZ none).round a.eval):=by
    refine execOp_congr o k fun x I=>?_
    cases x with
    | tmp t=>grind
    | _=>rfl
   rw[e];have y:∀(d:Option Tmp) (v:Value) (aE:World),wpOpsIn (dZ none) 0 P bm (fun e a w=>Q e a.defers w) l (a.put d v) aE->wpOpsIn (dZ none) 0 P bm (fun e a w=>Q e a.defers w) l (b.put d v) aE:=fun d v aE F=>q _ _ aE (fun t m=>Qm ah (s t m)) (by simp_all[AN]) (by simp_all[Eg]) F
   generalize (o.semAt (dZ none).round a.eval).run P w=r at f;cases r with
   | ok x aE=>
    cases x<;>simp only[Oper.uponIn]at f⊢ <;>
     first
      | exact y _ _ _ f
      | exact⟨f.1,CallsIn.mono f.2 (fun e n p=>aT)⟩
      | exact⟨f.1,RowsIn.mono f.2 (fun _ _ p=>y _ _ _ p)⟩
      | exact⟨f.1,RoundIn.mono f.2 (fun e n p=>aT)⟩
      |(rename_i d;exact q ({a with defers:=d::a.defers}.put o.dst undef) ({b with defers:=d::b.defers}.put o.dst undef) aE (fun t m=>Qm (a:={a with defers:=d::a.defers}) (b:={b with defers:=d::b.defers}) ah (s t m)) (by simp_all[AN]) (by simp_all[Eg]) f)
      | exact f
   | halt x aE=>cases x<;>simp only[Oper.uponIn]at f⊢ <;> first|exact f|simp_all
end Go.Ab
namespace Go.Ab
open Go
variable{A hs B C jR H P io c h k be s w aE x bA y dN σ}
section
variable[gi]
def aec(P:Program)(i:Tmp)(bm:Array Oper):Bool->Bool
 | true=>(oq P bm.toList).any fun o=>o.1.dst==some i
 | false=>bm.toList.any fun o=>o.dst==some i
def nm(P:Program)(i:Tmp):Code->Bool
 | .region _ bm d=>aec P i bm d
 | .seq a b=>nm P i a||nm P i b
 | .cond _ a b=>nm P i a||nm P i b
 | _=>false
theorem Iu(i:Nat)(all:List Oper):∀(l:List Oper) (T:aj) (H:an) (aY:eG),(∀o∈l,o.dst≠some i)->hZ P be all l T H=some aY->bS aY.T i=bS T i
 | [],T,H,aY,_,a=>by cases a;rfl
 | o::l,T,H,aY,a2,a=>by
  have a:fB P be o ((gF all o.guard).f T) T H (hZ P be all l)=some aY:=a;have b:=a2 o (.head _);have c:=fun x d=>a2 x (mem_cons_of_mem _ d)
  unfold fB at a;split at a;split at a;rw[Iu i all l _ _ _ c a,uW b];cases a;rw[Iu i all l _ _ _ c a,uW b]
theorem Iv(all:List Oper):∀(l:List (Oper×mp)) (T:aj) (H:an) (b:List kG) (aY:eG),m6 P be all l T H b=some aY->aY.T.length=T.length/\aY.cG=.normal
 | [],T,H,b,aY,a=>by cases a;exact⟨rfl,rfl⟩
 | o::l,T,H,b,aY,a=>by have a:ou P be o.1 o.2 ((gF all o.1.guard).f T) T H b (m6 P be all l)=some aY:=a;unfold ou at a;split at a;split at a;split at a;obtain⟨c,d⟩:=Iv all l _ _ _ _ a;exact⟨by rw[c,AJ],d⟩;cases a;cases a;obtain⟨c,d⟩:=Iv all l _ _ _ _ a;exact⟨by rw[c,AJ],d⟩
theorem aed(c6:Bool):∀(c:Code),jS c=true->∀(T:aj) (H:an) (aY:eG),(dB P c6 c).f be T H=some aY->aY.T.length=T.length:=by
 intro c;induction c with
 | skip=>intro _ T H aY e;cases e;rfl
 | ret=>intro _ T H aY e;cases e;rfl
 | region id i d=>
  intro _ T H aY e;cases d with
  | true=>
   have e:l2 P be i.toList T H=some aY:=e
   grind[l2,Iv]
  | false=>exact AK _ _ _ _ _ e
 | seq a b j k=>
  intro h T H aY e;have h:(jS a&&jS b)=true:=h
  grind[dB,pb]
 | cond c a b j k=>
  intro h T H aY e;have h:(jS a&&jS b)=true:=h;have e:mq be ((da c).g T) (dB P c6 a) (dB P c6 b) T H=some aY:=e;unfold mq at e
  grind
 | _=>intro h;cases h
theorem AO(c6:Bool)(i:Tmp):∀(c:Code),jS c=true->nm P i c=false->∀(T:aj) (H:an) (aY:eG),(dB P c6 c).f be T H=some aY->bS aY.T i=bS T i:=by
 intro c;induction c with
 | skip=>intro _ _ T H aY e;cases e;rfl
 | ret=>intro _ _ T H aY e;cases e;rfl
 | region id l d=>
  intro _ j T H aY e;cases d with
  | true=>
   have e:l2 P be l.toList T H=some aY:=e;have j:((oq P l.toList).any fun o=>o.1.dst==some i)=false:=j
   grind[l2,Ed]
  | false=>
   have j:(l.toList.any fun o=>o.dst==some i)=false:=j;refine Iu i _ _ _ _ _ (fun o p h=>?_) e
   grind
 | seq a b m n=>
  intro k j T H aY e;have k:(jS a&&jS b)=true:=k;have j:(nm P i a||nm P i b)=false:=j;rw[Bool.and_eq_true]at k
  grind[dB,pb]
 | cond c a b m n=>
  intro k j T H aY e;have k:(jS a&&jS b)=true:=k;have j:(nm P i a||nm P i b)=false:=j;rw[Bool.and_eq_true]at k;rw[Bool.or_eq_false_iff]at j;have e:mq be ((da c).g T) (dB P c6 a) (dB P c6 b) T H=some aY:=e;unfold mq at e
  grind
 | _=>intro k;cases k
theorem Iw(k:fV P B σ h H w)(a:RowKit.Below w.heap.size w aE):e2 B σ h H w σ h H aE:=
 ⟨⟨k.fM.below a,Nat.le_refl _,fun _ _=>rfl,fun _ _ h=>h,a.os,a.tape,a.output,a.size,fun c d _=>a.block c d,fun _ h _=>h⟩,k.sub,fun id b a=>by rwa [xM]at a,fG.refl H⟩
def u0(k:Nat)(T:aj):Prop:=bS T k=undef/\bS T (k+1)=undef/\k+1<T.length
def aee(P:Program)(be:hY)(s:Nat)(io:Code)(B:Nat)(σ:eH)(h:Nat->Option Obj)(H:an)(w:World)(ds:List Deferred)(T:aj)(aY:eG):Exit->Act->World->Prop:=
 fun e c aE=>∃u dR τ d a b,e=.panic [{v:=.iface u dR,recovered:=false}]/\c.defers=ds/\e2 B σ h H w τ d a aE/\fG a aY.H/\bS b s=bS T s/\b.length=T.length/\(dB P true io).f be b a=some aY
def Qn(P:Program)(be:hY)(s:Nat)(io:Code)(B:Nat)(σ:eH)(h:Nat->Option Obj)(H:an)(w:World)(ds:List Deferred)(T:aj)(aY:eG):Exit->Act->World->Prop:=
 fun e a aE=>PU B σ h H w ds aY e a aE\/aee P be s io B σ h H w ds T aY e a aE
def ld(P:Program)(be:hY)(s k:Nat)(io jR C:Code):Prop:=
 ∀(T:aj) (H:an) (aY:eG),u0 k T->H.cX<=H.next->(dB P true jR).f be T H=some aY->(aY.cG=.normal->u0 k aY.T/\bS aY.T s=bS T s/\aY.T.length=T.length)/\
  ∀(B:Nat) (σ:eH) (h:Nat->Option Obj) (w:World) (a:Act),fV P B σ h H w->fO σ H.next aY.H.next->bt σ T a.tmps.toList->C.wpIn (dZ none) 0 P (Qn P be s io B σ h H w a.defers T aY) a w
theorem ld.plain{s:Nat}{k:Nat}(i:cl P)(j:gB P be)(b:jS A=true)(ah:nm P s A=false)(l:nm P k A=false)(m:nm P (k+1) A=false):ld P be s k io A A:=by intro T H c dJ p d;refine⟨fun _=>?_,fun B σ h w a n f o=>wpIn_mono (wE i j true A b T H c d σ h w a none n f o) fun e q aE h=>.inl h⟩;have g:=aed true A b T H c d;exact⟨⟨(AO true k A b l _ _ _ d).trans dJ.1,(AO true (k+1) A b m _ _ _ d).trans dJ.2.1,by rw[g];exact dJ.2.2⟩,AO true s A b ah _ _ _ d,g⟩
theorem ld.cond(e:ld P be s k io bA x)(f:ld P be s k io dN y):ld P be s k io (.cond c bA dN) (.cond c x y):=by
 intro T H a dJ d b;have b:mq be ((da c).g T) (dB P true bA) (dB P true dN) T H=some a:=b;unfold mq at b;split at b;rename_i t j;cases t with
 | true=>
  obtain⟨h,i⟩:=e T H a dJ d b
  grind[wpIn_cond,Di]
 | false=>
  obtain⟨h,i⟩:=f T H a dJ d b
  grind[wpIn_cond,Di]
 grind
theorem ld.seq(y:gB P be)(ar:∀T H o,(dB P true io).f be T H=some o->o.cG=.ret)(hA:ld P be s k io hs A)(lM:ld P be s k io jR C):ld P be s k io (.seq hs jR) (.seq A C):=by
 intro T H g dJ q g9;obtain⟨bP,z,m⟩:=pb g9;have ox:=j2 y true hs _ _ _ q z;obtain⟨i2,F⟩:=hA T H bP dJ q z;rcases m with⟨n,m⟩|⟨n,rfl⟩
 obtain⟨eA,fC,g3⟩:=i2 n;have i:=ox.wf q;have r:=j2 y true jR _ _ _ i m;obtain⟨nP,mv⟩:=lM bP.T bP.H g eA i m;refine⟨fun I=>?_,fun B σ h w a c b t=>?_⟩
 simp_all
 refine wpIn_seq (wpIn_mono (F B σ h w a c (b.left r.dI) t) ?_);rintro e J aE (⟨bO,q2,τ,aH,fu,p⟩|⟨u,dR,τ,j,K,L,b5,ax,M,N,S,V,W⟩);rw[n]at bO;subst bO;refine wpIn_mono (mv B τ aH aE J (c.next p) (b.right p.fT) fu) ?_;rintro e aef ca (⟨r1,r2,v,x,eK,nR⟩|⟨u,dR,v,j,K,L,b5,ax,M,N,S,V,W⟩);exact .inl ⟨r1,r2.trans q2,v,x,eK,p.trans c (b.left r.dI) nR⟩;exact .inr ⟨u,dR,v,j,K,L,b5,ax.trans q2,p.trans c (b.left r.dI) M,N,S.trans fC,V.trans g3,W⟩
 grind
 refine⟨fun I=>absurd I n,fun B σ h w a c b t=>wpIn_seq (wpIn_mono (F B σ h w a c b t) ?_)⟩;intro e J aE d;cases e with
 | normal=>
  rcases d with⟨bO,_⟩|⟨_,_,_,_,_,_,b5,_⟩
  cases X:g.cG with
  | normal=>simp_all
  | exit id=>rw[X]at bO;cases bO
  | ret=>rw[X]at bO;cases bO
  grind
 | exit id=>exact d
 | goto l=>exact d
 | ret=>exact d
 | panic tm=>exact d
 | outgrown=>exact d
def nn(P:Program)(be:hY)(s k:Nat)(io jR C:Code):Prop:=
 ∀(T:aj) (H:an) (aY:eG),u0 k T->H.cX<=H.next->(dB P true jR).f be T H=some aY->
  ∀(B:Nat) (σ:eH) (h:Nat->Option Obj) (w:World) (a:Act),fV P B σ h H w->fO σ H.next aY.H.next->bt σ T a.tmps.toList->C.wpIn (dZ none) 0 P (Qn P be s io B σ h H w a.defers T aY) a w
theorem ld.e(h:ld P be s k io jR C):nn P be s k io jR C:=fun T H a dJ b c=>(h T H a dJ b c).2
theorem nn.plain(d:cl P)(f:gB P be)(g:jS A=true):nn P be s k io A A:=fun T H b dJ m i B σ h w a j c l=>wpIn_mono (wE d f true A g T H b i σ h w a none j c l) fun e n aE h=>.inl h
theorem nn.seq(y:gB P be)(ar:∀T H o,(dB P true io).f be T H=some o->o.cG=.ret)(X:ld P be s k io hs A)(lM:nn P be s k io jR C):nn P be s k io (.seq hs jR) (.seq A C):=by
 intro T H g dJ p g9;obtain⟨bP,z,m⟩:=pb g9;have ox:=j2 y true hs _ _ _ p z;obtain⟨i2,F⟩:=X T H bP dJ p z;rcases m with⟨q,m⟩|⟨q,rfl⟩
 obtain⟨eA,fC,g3⟩:=i2 q;have i:=ox.wf p;have r:=j2 y true jR _ _ _ i m;have mv:=lM bP.T bP.H g eA i m;intro B σ h w a c b t;refine wpIn_seq (wpIn_mono (F B σ h w a c (b.left r.dI) t) ?_);rintro e I aE (⟨bO,q2,τ,aH,fu,n⟩|⟨u,dR,τ,j,J,K,b5,ax,L,M,N,S,V⟩);rw[q]at bO;subst bO;refine wpIn_mono (mv B τ aH aE I (c.next n) (b.right n.fT) fu) ?_;rintro e aef ca (⟨r1,r2,v,x,eK,nR⟩|⟨u,dR,v,j,J,K,b5,ax,L,M,N,S,V⟩);exact .inl ⟨r1,r2.trans q2,v,x,eK,n.trans c (b.left r.dI) nR⟩;exact .inr ⟨u,dR,v,j,J,K,b5,ax.trans q2,n.trans c (b.left r.dI) L,M,N.trans fC,S.trans g3,V⟩
 grind
 intro B σ h w a c b t;refine wpIn_seq (wpIn_mono (F B σ h w a c b t) ?_);intro e I aE d;cases e with
 | normal=>
  rcases d with⟨bO,_⟩|⟨_,_,_,_,_,_,b5,_⟩
  cases W:g.cG with
  | normal=>simp_all
  | exit id=>rw[W]at bO;cases bO
  | ret=>rw[W]at bO;cases bO
  grind
 | exit id=>exact d
 | goto l=>exact d
 | ret=>exact d
 | panic tm=>exact d
 | outgrown=>exact d
end
end Go.Ab
namespace Go.Ab
open Go
variable{A C H P Q io T a tI harm i id j m be n next jp bm aY p t k8 tt v ap fs cF w lo σ}{o:Oper}{y x s k:Nat}
section
variable[gi]
theorem Qo(h:o.op=.typeAssert (.tmp y) t a false)(b:P.underlying P.rt.typeAssertionError=some (.pointer tI))(c:P.underlying a=some k8)(d:∀ms,k8≠.interface ms)
  (f:A.eval (.tmp y)=.nilIface\/∃u v,A.eval (.tmp y)=.iface u v/\u≠a) (g:∀u dR et,Q (.panic [{v:=.iface u dR,recovered:=false}]) A (w.alloc et)):o.wpIn (dZ none) 0 P A w next Q:=by
 refine⟨fun _ _=>trivial,?_⟩;obtain⟨dR,et,i⟩:=aea (t:=t) (w:=w) b c d f;have e:(o.semAt (dZ none).round A.eval).run P w=.halt (.panic (.iface P.rt.typeAssertionError dR)) (w.alloc et):=by simp_all[Oper.semAt_none,execOp]
 rw[e];exact g _ _ _
def yl(a:TypeId)(v:Value):Prop:=v=.nilIface\/∃u z,v=.iface u z/\u≠a
theorem yl.rel(h:yl a v)(b:bV σ v ap):yl a ap:=by
 rcases h with rfl|⟨u,z,rfl,c⟩
 cases b;exact .inl rfl;cases b;exact .inr ⟨_,_,rfl,c⟩
def nU(P:Program)(be:hY)(s k x:Nat)(a tt:TypeId)(A:Code):Prop:=
 ∀(B:Nat) (σ:eH) (h:Nat->Option Obj) (T:aj) (H:an) (w:World) (b:Act),fV P B σ h H w->bt σ T b.tmps.toList->k+1<T.length->yl a (bS T x)->(∃v,(lE P tt).f (bS T s) H=some (v,H))->∀(Q:Exit->Act->World->Prop),
  (∀c aE u dR τ aH,c.defers=b.defers->e2 B σ h H w τ aH H aE->Q (.panic [{v:=.iface u dR,recovered:=false}]) c aE)->A.wpIn (dZ none) 0 P Q b w
theorem nU.seq(h:nU P be s k x a tt A):nU P be s k x a tt (.seq A C):=by intro B σ b T H w c d e f g i Q j;exact wpIn_seq (h B σ b T H w c d e f g i _ fun l aE u dR τ aH m n=>j l aE u dR τ aH m n)
theorem AP:fO σ n n:=fun i a b=>absurd b (Nat.not_lt.2 a)
theorem Eh{A:Act}(h:o.guard=none):Region.wanted o (yielded bm A.tmps)=true:=by grind[Region.wanted]
theorem Qp(a:o.op=.move (.tmp x)):(gZ P o.op).f be T H=some (bS T x,H):=by rw[a];rfl
theorem Ei(a:o.op=.load tt (.tmp s)):(gZ P o.op).f be T H=(lE P tt).f (bS T s) H:=by rw[a];rfl
theorem sz(h:i<T.length):bS (fZ T i v) i=v:=by simp_all[mu,mr]
theorem Ej(h:i≠j):bS (fZ T i v) j=bS T j:=uW (d:=some i) (fun e=>h aT)
theorem bt.size{A:Act}(h:bt σ T A.tmps.toList):A.tmps.size=T.length:=by have:=h.length;simp_all
theorem nU.Qq{m:Oper}(r:cl P)(z:gB P be)(d:P.underlying P.rt.typeAssertionError=some (.pointer tI))(C:P.underlying a=some k8)(F:∀ms,k8≠.interface ms)
  (I:bm[0]?=some m) (J:bm[1]?=some o) (K:m.op=.move (.tmp x)) (e:m.dst=some y) (f:m.guard=none) (L:o.op=.typeAssert (.tmp y) t a false) (g:o.guard=none) (W:y<=k):nU P be s k x a tt (.region id bm false):=by
 intro B σ h T H w M i q X c gA Q N;refine wpIn_region ?_;obtain⟨n,j⟩:∃n,bm.size=n+2:=by
  have:1<bm.size:=aT
  exact⟨bm.size-2,U⟩
 rw[j,range_eq_range',range'_succ,range'_succ];simp only[wpOpsIn,I];rw[if_pos (Eh f)];refine C6 r z m i AP q (Qp K) ?_;intro ap τ aH aE S st;simp only[J];rw[if_pos (Eh g)];have l:=bt.size q;have V:=i.next st;refine Qo L d C F ?_ ?_;have p:=yk (v:=ap) (show @LT.lt Nat _ y M.tmps.size by omega);rw[e,p];exact c.rel S;intro u dR et;exact N _ _ u dR τ aH Eg (st.trans i AP (Iw V (Ql _ _)))
def Ek(bm:Array Oper)(p m:Nat)(harm:List Nat):Nat->Array Bool->Bool
 | 0,_=>false
 | n+1,aL=>(! (Region.ready .any bm aL).isEmpty)&&(Region.ready .any bm aL).all fun i=>if i==p then aL.getD m false else harm.contains i&&Ek bm p m harm n (aL.setIfInBounds i true)
theorem Qr{P:Program}{be:hY}{a:TypeId}{t:TypeId}{tI:TypeId}{k8:TypeDesc}{tt:TypeId}{bm:Array Oper}{p:Nat}{m:Nat}{harm:List Nat}{Q:Exit->Act->World->Prop}{e:aj}{H:an}(M:cl P)(N:gB P be)(l:P.underlying P.rt.typeAssertionError=some (.pointer tI))(S:P.underlying a=some k8)(V:∀ms,k8≠.interface ms)
  (W:bm[p]?=some o) (X:o.op=.typeAssert (.tmp y) t a false) (n:o.guard=none) (fS:y<=k)
  (hh:∀i∈harm,∃(g:Oper) (d:Nat),bm[i]?=some g/\g.guard=none/\g.dst=some d/\d≠s/\d≠x/\((g.op=.move (.tmp x)/\d=y/\i=m)\/(g.op=.load tt (.tmp s)/\d≠y/\i≠m)))
  (j:yl a (bS e x)) (gA:∃v,(lE P tt).f (bS e s) H=some (v,H)) (fD:k+1<e.length):
  ∀(b:Nat) (aL:Array Bool) (T:aj) (B:Nat) (σ:eH) (h:Nat->Option Obj) (w:World) (q:Act),Ek bm p m harm b aL=true->fV P B σ h H w->bt σ T q.tmps.toList->T.length=e.length->bS T s=bS e s->bS T x=bS e x->(aL.getD m false=true->bS T y=bS e x)->
   (∀dP aE u dR τ aH,dP.defers=q.defers->e2 B σ h H w τ aH H aE->Q (.panic [{v:=.iface u dR,recovered:=false}]) dP aE)->wpAnyIn (dZ none) 0 P .any bm Q b aL q w
 | 0,aL,T,B,σ,h,w,q,c,_,_,_,_,_,_,_=>by cases c
 | b+1,aL,T,B,σ,h,w,q,c,r,F,hlen,ah,ey,hm,iM=>by
  unfold Ek at c;rw[Bool.and_eq_true]at c;obtain⟨me,I⟩:=c;refine⟨fun c8=>a1,fun i aB=>?_⟩;have c:=all_eq_true.1 I i aB;by_cases hip:i=p;subst hip;rw[if_pos aW]at c;unfold wpOpIn;simp only[W];rw[if_pos (Eh n)];refine Qo X l S V ?_ ?_;have:=(Ih F y);rw[hm c]at this;exact j.rel this;intro u dR et;exact iM _ _ u dR σ h rfl (Iw r (Ql _ _));rw[if_neg a1,Bool.and_eq_true]at c;obtain⟨g,d,eA,fC,g3,g4,g5,pJ⟩:=hh i a1;unfold wpOpIn;simp only[eA];rw[if_pos (Eh fC)];obtain⟨v,hv,J⟩:∃v,(gZ P g.op).f be T H=some (v,H)/\(i=m->v=bS e x):=by
   rcases pJ with⟨z,_,_⟩|⟨z,_,gO⟩
   exact⟨_,Qp z,fun _=>ey⟩;obtain⟨v,hv⟩:=gA
   grind[Ei]
  refine C6 M N g r AP F hv ?_;intro ap τ aH aE K st;rw[g3];obtain⟨b5,ax⟩:=sl (F.mono st.fT.mono) (some d) K;refine Qr M N l S V W X n fS hh j gA fD b _ (gz T (some d) v) B τ aH aE _ c.2 (r.next st) b5 (by simp_all[AJ]) (by simp_all[uW]) (by simp_all[uW]) ?_ ?_;intro aw1;by_cases him:i=m;rw[J him];have L:d=y:=U
  subst L;exact sz U
  simp_all[uW]
  intro dP ca u dR lF h2 z dw;exact iM dP ca u dR lF h2 (z.trans ax) (st.trans r AP dw)
theorem aeg(w:World)(n:Nat):RowKit.Below w.heap.size w {w with drawn:=n}:=⟨rfl,rfl,rfl,Nat.le_refl _,fun _ _=>rfl⟩
theorem nU.any(l:cl P)(n:gB P be)(e:P.underlying P.rt.typeAssertionError=some (.pointer tI))(q:P.underlying a=some k8)(r:∀ms,k8≠.interface ms)
  (v:bm[p]?=some o) (z:o.op=.typeAssert (.tmp y) t a false) (f:o.guard=none) (C:y<=k)
  (hh:∀i∈harm,∃(b:Oper) (d:Nat),bm[i]?=some b/\b.guard=none/\b.dst=some d/\d≠s/\d≠x/\((b.op=.move (.tmp x)/\d=y/\i=m)\/(b.op=.load tt (.tmp s)/\d≠y/\i≠m)))
  (F:Ek bm p m harm bm.size (Array.replicate bm.size false)=true):nU P be s k x a tt (.region id bm true):=by
 intro B σ h T H w I g J K c L Q M;refine wpIn_region_any l.mixed ?_;have st:=Iw g (aeg w (w.drawn+1));refine Qr l n e q r v z f C hh c L K _ _ T B σ h _ I F (g.next st) J rfl rfl rfl ?_ ?_;intro j;rw[Array.getD_eq_getD_getElem?,Array.getElem?_replicate]at j
 grind
 intro N ca u dR τ S V W;exact M N ca u dR τ S V (st.trans g AP W)
theorem aeh(h:u0 k T):fZ (fZ (fZ (fZ T k fs) (k+1) cF) k undef) (k+1) undef=T:=by
 obtain⟨b,a,e⟩:=h;rw[mr,getD_eq_getElem?_getD]at b a;rw[getElem?_eq_getElem U]at a;simp only[mu];refine ext_getElem aW fun i c d=>?_
 grind
theorem Qs(dJ:u0 k T)(W:P.underlying a=some k8)(X:∀ms,k8≠.interface ms)(y:(dB P true (tH o x t a k lo jp)).f be T H=some aY):
  ((dB P true lo).f be T H=some aY)\/(yl a (bS T x)/\∃l,(∀i,i≠k->i≠k+1->bS l i=bS T i)/\l.length=T.length/\(dB P true jp).f be l H=some aY):=by
 obtain⟨L,M,N⟩:=dJ;obtain⟨S,e,F,y⟩:=wF y (fun bP p=>by
  have p:fB P be _ true T H (fun T H=>fB P be _ true T H (fun T H=>some ⟨.normal,T,H⟩))=some bP:=p
  grind[fB])
 have e:fB P be _ true T H (fun T H=>fB P be {o with dst:=some (k+1),op:=.extract (.tmp k) 1,guard:=none} true T H (fun T H=>some ⟨.normal,T,H⟩))=some S:=e;unfold fB at e;simp only at e;split at e
 case h_2=>cases e
 case h_1 v h d=>
 split at e
 case h_2=>cases e
 case h_1 b q g=>
 cases e;have d:iJ H ((vO P a true).f (bS T x))=some (v,h):=d;have B:(vO P a true).f=kF a (gy P a):=by simp_all[vO]
 rw[B]at d;have j:∀(z:Value) (c:Bool),v=.tuple #[z,.bool c]->b=.bool c/\q=h:=by
  intro z c m;subst m;have g:(match bS (fZ T k (.tuple #[z,.bool c])) k with|.tuple vs=>iJ h (lW vs.toList 1)|_=>none)=some (b,q):=g;rw[sz U]at g;have g:some (Value.bool c,h)=some (b,q):=g
  simp_all
 have n:mq be (bS (fZ (fZ T k v) (k+1) b) (k+1)) (dB P true (.seq (.region 0 #[{o with dst:=some k,op:=.assign (.const (.tuple #[])),guard:=none},{o with dst:=some (k+1),op:=.assign (.const (.tuple #[])),guard:=none}] false) lo)) (dB P true jp) (fZ (fZ T k v) (k+1) b) q=some aY:=y;rw[sz (by simp_all[mu])]at n;clear y;have r:∀z,v=.tuple #[z,.bool false]->h=H->∃l,(∀i,i≠k->i≠k+1->bS l i=bS T i)/\l.length=T.length/\(dB P true jp).f be l H=some aY:=by intro z m s;obtain⟨rfl,rfl⟩:=j _ _ m;subst s;exact⟨_,fun i cU dw=>by simp_all[Ej,Ne.symm],by simp_all[mu],n⟩
 have I:∀(c:Option Value),iJ H (c.map fun z=>Value.tuple #[z,.bool false])=some (v,h)->∃z,v=.tuple #[z,.bool false]/\h=H:=by
  intro c J;cases c with
  | none=>cases J
  | some z=>cases J;simp_all
 cases C:bS T x with
 | nilIface=>rw[C]at d;obtain⟨z,m,s⟩:=I _ d;exact .inr ⟨.inl rfl,r z m s⟩
 | iface u z=>
  rw[C]at d;have d:iJ H (if beq u a then some (.tuple #[z,.bool true])else(gy P a).map fun z=>.tuple #[z,.bool false])=some (v,h):=d;by_cases K:u=a
  ·subst K;rw[if_pos (beq_refl u)]at d;left;have d:=d;cases d;obtain⟨rfl,rfl⟩:=j _ _ rfl;have w:(dB P true lo).f be (fZ (fZ (fZ (fZ T k (.tuple #[z,.bool true])) (k+1) (.bool true)) k undef) (k+1) undef) q=some aY:=n;rw[aeh ⟨L,M,N⟩]at w;exact w
  ·rw[if_neg a1]at d;obtain⟨V,m,s⟩:=I _ d;exact .inr ⟨.inr ⟨u,z,rfl,K⟩,r V m s⟩
 | _=>rw[C]at d;cases d
theorem ld.guard(p:cl P)(m:gB P be)(ar:∀T H o,(dB P true io).f be T H=some o->o.cG=.ret)(g:∀T H o,(dB P true io).f be T H=some o->∃v,(lE P tt).f (bS T s) H=some (v,H))
  (q:P.underlying a=some k8) (r:∀ms,k8≠.interface ms) (y:jS A=true) (ah:nm P s A=false) (z:nm P k A=false) (C:nm P (k+1) A=false) (F:s<k) (c:nU P be s k x a tt A):ld P be s k io (tH o x t a k A io) A:=by
 intro T H i dJ n I;rcases Qs dJ q r I with J|⟨d,K,j,e,b⟩
 exact ld.plain p m y ah z C T H i dJ n J;refine⟨fun X=>aT,fun B σ h w L M N S=>?_⟩;obtain⟨v,hv⟩:=g _ _ _ b;have l:=j s U U;exact c B σ h T H w L M S dJ.2.2 d ⟨v,a1⟩ _ fun dP aE u dR τ aH V W=>.inr ⟨u,dR,τ,aH,H,K,rfl,V,W,j2 m true io _ _ _ n b,l,e,b⟩
theorem nn.guard(p:cl P)(m:gB P be)(ar:∀T H o,(dB P true io).f be T H=some o->o.cG=.ret)(g:∀T H o,(dB P true io).f be T H=some o->∃v,(lE P tt).f (bS T s) H=some (v,H))
  (q:P.underlying a=some k8) (r:∀ms,k8≠.interface ms) (y:jS A=true) (z:s<k) (c:nU P be s k x a tt A):nn P be s k io (tH o x t a k A io) A:=by
 intro T H i dJ n C;rcases Qs dJ q r C with F|⟨d,I,j,e,b⟩
 exact nn.plain p m y T H i dJ n F;intro B σ h w J K L M;obtain⟨v,V⟩:=g _ _ _ b;have l:=j s U U;exact c B σ h T H w J K M dJ.2.2 d ⟨v,a1⟩ _ fun W aE u dR τ aH N S=>.inr ⟨u,dR,τ,aH,H,I,rfl,N,S,j2 m true io _ _ _ n b,l,e,b⟩
end
end Go.Ab
namespace Go.Ab
open Go
variable{H E P T a b c d f kv l be aY s t eU cn tt v v0}
section
variable[gi]
structure wH (P:Program) (tt eU f cn:Nat) (kv:Value) (s b c d:Nat) (l:List Oper):Prop where
 cG:∃bP cP fN eN:Oper,l=[bP,cP,fN,eN]/\(bP.op=.load tt (.tmp s)/\bP.dst=some b/\bP.guard=none)/\(cP.op=.nilCheck (.tmp b)/\cP.dst=some c/\cP.guard=none)/\(fN.op=.fieldAddr eU (.tmp c) f/\fN.dst=some d/\fN.guard=none)/\(eN.op=.store cn (.tmp d) (.const kv)/\eN.dst=none/\eN.guard=none)
 kv:rq P (.const kv)=true
def uK(P:Program)(tt eU f cn:Nat)(kv v0:Value)(H:an):Option an:=match (lE P tt).f v0 H with
 | some (a,_)=>match hI a with
  | some b=>match (ur P eU f).f b with
   | some v3=>match fQ P cn with
    | some n=>match d9 n v3 kv H with
     | some (_,E)=>some E
     | none=>none
    | none=>none
   | none=>none
  | none=>none
 | none=>none
theorem Ix(b:(lE P t).f a H=some (v,E)):E=H:=by
 obtain⟨id,off,rfl⟩:=OD b;unfold lE at b;split at b;rename_i n _ _;have b:(match o2 H id off n with|some l=>some (Value.agg l.toArray,H)|none=>none)=some (v,E):=b
 grind
 have b:iJ H (vQ H id off)=some (v,E):=b;unfold iJ at b
 grind
 grind
section
theorem Qt{cn:Nat}{d:Nat}{o:Oper}(b:rq P (.const kv)=true)(a:o.op=.store cn (.tmp d) (.const kv)):(gZ P o.op).f be T H=match fQ P cn with|some n=>d9 n (bS T d) kv H|none=>none:=by
 rw[a];have e:gZ P (.store cn (.tmp d) (.const kv))=td P (.store cn (.tmp d) (.const kv)):=by simp_all[gZ,hH,rq,Op.operands]
 rw[e];show(match fQ P cn with|some n=>(⟨fun T H=>d9 n ((da (.tmp d)).g T) ((da (.const kv)).g T) H⟩:Mx)|none=>⟨fun _ _=>none⟩).f T H=_;cases fQ P cn<;>rfl
theorem aei(h:wH P tt eU f cn kv s b c d l)(t:b<T.length)(M:c<T.length)(N:d<T.length)(a:hZ P be l l T H=some aY):uK P tt eU f cn kv (bS T s) H=some aY.H:=by
 obtain⟨⟨bP,cP,fN,eN,rfl,⟨u,v,a3⟩,⟨w,x,y⟩,⟨z,B,C⟩,d1,d2,kg⟩,F⟩:=h
 replace a:fB P be bP ((gF _ bP.guard).f T) T H (fun T H=>fB P be cP ((gF _ cP.guard).f T) T H (fun T H=>fB P be fN ((gF _ fN.guard).f T) T H (fun T H=>fB P be eN ((gF _ eN.guard).f T) T H (fun T H=>some ⟨.normal,T,H⟩))))=some aY:=a
 rw[a3,y,C,kg]at a
 replace a:fB P be bP true T H (fun T H=>fB P be cP true T H (fun T H=>fB P be fN true T H (fun T H=>fB P be eN true T H (fun T H=>some ⟨.normal,T,H⟩))))=some aY:=a
 unfold fB at a;simp only at a;rw[Ei u,v,x,B,d2]at a;unfold uK;split at a
 case h_2=>cases a
 case h_1 j m p=>
 obtain rfl:=Ix p;rw[p];split at a
 case h_2=>cases a
 case h_1 k I e=>
 rw[w]at e;have e:iJ m (hI (bS (fZ T b j) b))=some (k,I):=e;rw[sz t]at e;simp only;cases q:hI j with
 | none=>rw[q]at e;cases e
 | some ca=>
 rw[q]at e;cases e;split at a
 case h_2=>cases a
 case h_1 r J g=>
 rw[z]at g;have g:iJ m ((ur P eU f).f (bS (fZ (fZ T b j) c k) c))=some (r,J):=g;rw[sz (by simp_all[mu])]at g;simp only;cases i:(ur P eU f).f k with
 | none=>rw[i]at g;cases g
 | some S=>
 rw[i]at g;cases g;split at a
 case h_2=>cases a
 case h_1 K L o=>
 rw[Qt F d1]at o;have o:(match fQ P cn with|some n=>d9 n (bS (fZ (fZ (fZ T b j) c k) d r) d) kv m|none=>none)=some (K,L):=o
 grind[sz,mu]
theorem aej(h:wH P tt eU f cn kv s b c d l)(m:b<T.length)(I:c<T.length)(J:d<T.length)(a:uK P tt eU f cn kv (bS T s) H=some E):∃aY,hZ P be l l T H=some aY/\aY.H=E:=by
 obtain⟨⟨bP,cP,fN,eN,rfl,⟨o,p,a3⟩,⟨q,r,t⟩,⟨u,v,w⟩,d1,d2,kg⟩,x⟩:=h;show∃aY,fB P be bP ((gF _ bP.guard).f T) T H (fun T H=>fB P be cP ((gF _ cP.guard).f T) T H (fun T H=>fB P be fN ((gF _ fN.guard).f T) T H (fun T H=>fB P be eN ((gF _ eN.guard).f T) T H (fun T H=>some ⟨.normal,T,H⟩))))=some aY/\aY.H=E;rw[a3,t,w,kg];show∃aY,fB P be bP true T H (fun T H=>fB P be cP true T H (fun T H=>fB P be fN true T H (fun T H=>fB P be eN true T H (fun T H=>some ⟨.normal,T,H⟩))))=some aY/\aY.H=E;unfold uK at a;split at a
 case h_2=>cases a
 case h_1 g e k=>
 obtain rfl:=Ix k;split at a
 case h_2=>cases a
 case h_1 i y=>
 split at a
 case h_2=>cases a
 case h_1 j z=>
 split at a
 case h_2=>cases a
 case h_1 n B=>
 split at a
 case h_2=>cases a
 case h_1 C K L=>
 cases a;unfold fB;rw[Ei o,k,p,r,v,d2];simp only;have F:(gZ P cP.op).f be (gz T (some b) g) e=some (i,e):=by rw[q];show iJ e (hI (bS (fZ T b g) b))=_;rw[sz m,y];rfl
 rw[F];simp only;have M:(gZ P fN.op).f be (gz (gz T (some b) g) (some c) i) e=some (j,e):=by rw[u];show iJ e ((ur P eU f).f (bS (fZ (fZ T b g) c i) c))=_;rw[sz (by simp_all[mu]),z];rfl
 have N:(gZ P eN.op).f be (gz (gz (gz T (some b) g) (some c) i) (some d) j) e=some (C,E):=by
  rw[Qt x d1,B];show d9 n (bS (fZ (fZ (fZ T b g) c i) d j) d) kv e=_
  grind[sz,mu]
 simp_all
end
end
end Go.Ab
namespace Go.Ab
open Go
variable{B H P aq tJ f g gn hh kv be o pV dR eU cn tt u w y σ}
section
variable[gi]
structure AQ (P:Program) (g:FuncId) (gn:Func) (tt eU f cn:Nat) (kv:Value) (pV:Array Oper):Prop where
 fn:P.funcs[g]?=some gn
 body:∃(sA El:Nat) (kw ne:Oper),gn.body=some (.seq (.region sA #[kw,ne] false) (.cond (.tmp 2) (.region El pV false) .skip))/\(∀(A:Act) w,(execOp A.eval kw).run P w=.ok .recover w)/\kw.dst=some 1/\kw.guard=none/\ne.dst=some 2/\ne.guard=none/\
  (∀(A:Act) w u dR,A.eval (.tmp 1)=.iface u dR->(execOp A.eval ne).run P w=.ok (.value (.bool true)) w)/\(∀(A:Act) w,A.eval (.tmp 1)=.nilIface->(execOp A.eval ne).run P w=.ok (.value (.bool false)) w)
 az:gn.ntmps=6
 Qu:∀(tmps:Array Value) (w:World),(results gn tmps).run P w=.ok (.tuple #[]) w
 bm:wH P tt eU f cn kv 0 3 4 5 pV.toList
theorem Em(h:o.guard=none):Region.wanted o y=true:=by grind[Region.wanted]
theorem aek{c:Frame}(h:c.mode=u):c={c with mode:=u}:=by subst h;rfl
theorem ael(h:AQ P g gn tt eU f cn kv pV)(aq:Value)(w:World):CallsDIn (dZ none) 0 P g #[aq] .returning w fun e m aE=>(∃v,e=.returned v)/\m=.returning/\aE=w:=by
 obtain⟨sA,El,kw,ne,n,d,o,i,p,j,_,a⟩:=h.body;refine callsDIn_of_wpSIn h.fn n trivial fun b ag l=>?_
 rw[h.az];refine wpSIn_seq (wpSIn_region ?_);have k:range (#[kw,ne]:Array Oper).size=[0,1]:=rfl;rw[k];have q:(#[kw,ne]:Array Oper)[0]?=some kw:=rfl;have r:(#[kw,ne]:Array Oper)[1]?=some ne:=rfl;simp only[wpOpsSIn,q,r];rw[if_pos (Em i),d];have c:recoverD (b::ag)=none:=by simp[recoverD,l]
 rw[c];refine⟨fun _ _=>trivial,fun _ _=>trivial,?_⟩;rw[if_pos (Em j),a _ _ (by simp_all[yk])];refine wpSIn_cond (t:=false) (by simp_all[yk,AN]) (wpSIn_of_wpIn rfl (wpIn_skip (⟨by simp_all[Eg],.returning,?_,_,h.Qu _ _,⟨_,rfl⟩,rfl,rfl⟩)));rw[<- aek l]
theorem aem{E:an}(I:cl P)(J:gB P be)(h:AQ P g gn tt eU f cn kv pV)(k:fV P B σ hh H w)(p:bV σ aq tJ)(q:uK P tt eU f cn kv aq H=some E)(r:fO σ H.next E.next):
  CallsDIn (dZ none) 0 P g #[tJ] (.panicking [{v:=.iface u dR,recovered:=false}]) w fun e K aE=>(∃v,e=.returned v)/\K=.panicking [{v:=.iface u dR,recovered:=true}]/\∃ τ aH,e2 B σ hh H w τ aH E aE:=by
 obtain⟨sA,El,kw,ne,L,s,x,y,z,C,j,_⟩:=h.body;refine callsDIn_of_wpSIn h.fn L trivial fun c ag M=>?_
 rw[h.az];refine wpSIn_seq (wpSIn_region ?_);have F:range (#[kw,ne]:Array Oper).size=[0,1]:=rfl;rw[F];have N:(#[kw,ne]:Array Oper)[0]?=some kw:=rfl;have S:(#[kw,ne]:Array Oper)[1]?=some ne:=rfl;simp only[wpOpsSIn,N,S];rw[if_pos (Em y),s];simp only;have l:recoverD (c::ag)=some (.iface u dR,{c with mode:=.panicking [{v:=.iface u dR,recovered:=true}]}::ag):=by simp[recoverD,M]
 rw[l];simp only;refine⟨fun _ _=>trivial,fun _ _=>trivial,?_⟩;rw[if_pos (Em C),j _ _ u dR (by simp_all[yk])];simp only;refine wpSIn_cond (t:=true) (by simp_all[yk,AN]) ?_;simp only[if_true];refine wpSIn_of_wpIn rfl ?_;rw[x,z];have V:=p.cons (.cons .undef (.cons .undef (.cons .undef (.cons .undef (.cons .undef .nil)))));obtain⟨d,m,rfl⟩:=aej h.bm (T:=[aq,undef,undef,undef,undef,undef]) (show 3<6 by decide) (show 4<6 by decide) (show 5<6 by decide) q;refine wpIn_mono (Q:=fun e a aE=>e=.normal/\a.defers=[]/\∃ τ aH,e2 B σ hh H w τ aH d.H aE) (wpIn_region ?_) ?_;refine aeb (Q:=fun e W aE=>e=.normal/\W=[]/\∃ τ aH,e2 B σ hh H w τ aH d.H aE) (It:=fun t=>t !=1&&t !=2) ?_ _ {tmps:=#[tJ]++Array.replicate (6-(#[tJ]:Array Value).size) undef,defers:=[]} _ w ?_ ?_ ?_ ?_;obtain⟨bP,cP,fN,eN,gA,⟨i2,mP,a3⟩,⟨b1,b2,o8⟩,⟨nP,mv,xT⟩,d1,d2,kg⟩:=h.bm.cG;intro i o aB;have b:[bP,cP,fN,eN][i]?=some o:=aT
 match i,b with
 | 0,b=>simp_all[Op.operands]
 | 1,b=>simp_all[Op.operands]
 | 2,b=>simp_all[Op.operands]
 | 3,b=>simp_all[Op.operands]
 | n+4,b=>grind
 simp_all[Qk,Ne.symm]
 grind[AN]
 rfl;rw[range_eq_range',<- Array.length_toList];exact Ai I J pV none pV.toList 0 rfl σ hh _ H w _ d k r V m fun τ aH dP aE bO q2 X=>⟨rfl,q2,τ,aH,X⟩
 rintro e a aE ⟨rfl,a2,τ,aH,ah⟩;exact⟨a2,_,rfl,_,h.Qu _ _,⟨_,rfl⟩,rfl,τ,aH,ah⟩
end
end Go.Ab
namespace Go.Ab
open Go
variable{Bc Bc' D P b c cc d f fn fx g gn nO i1 i9 k kv pV ops9 eM eU cn tt}
section
variable[gi][ct]
theorem Qv{t:Nat}{s:Nat}{mk:Oper}(kd:cl P)
  (hf:P.funcs[f]?=some fn) (d5:fn.body=some (.seq (.region nO eM false) (.seq (.region i1 #[mk,D] false) Bc)))
  (ll:mk.op=.makeFunc (.func g) #[] #[.tmp s]) (aw2:mk.dst=some t) (No:mk.guard=none)
  (i3:D.op=.defer cc) (tk:cc.callee=.value (.tmp t)) (aen:cc.args=#[]) (Ij:D.guard=none) (Ik:D.dst=none)
  (ht:t<fn.ntmps) (fD:k+1<fn.ntmps) (aw3:fn.params.size+fn.nfree<=k) (tK:t<k) (aw4:t≠s)
  (aeo:nm P k (.region nO eM false)=false) (aep:nm P (k+1) (.region nO eM false)=false)
  (lM:AQ P g gn tt eU fx cn kv pV) (wI:wH P tt eU fx cn kv s b c d ops9.toList) (CU:b<=k) (aeq:c<=k) (aw5:d<=k)
  (aer:fn.results=#[])
  (Qw:∀be,gB P be->nn P be s k (.seq (.region i9 ops9 false) .ret) Bc' Bc):
  xV P f (.seq (.region nO eM false) (.seq (.region i1 #[mk] false) Bc')):=by
 intro n hA args H cG v E g9 B σ h w fb C p hv;have L:=hA n (Nat.le_refl _);obtain⟨adJ,bP,fs,ts,fR,ey,X,gH,hlen⟩:=HB g9;rw[hf]at ts;cases ts;cases gH;refine⟨⟨fn,_,hf,d5⟩,callsIn_of_wp_defers hf d5 trivial ?_⟩;have gC:=Ig hv fn.ntmps;have aw6:fn.ntmps<=(args++replicate (fn.ntmps-args.length) undef).length:=aT
 have F:∀i,args.length<=i->bS (args++replicate (fn.ntmps-args.length) undef) i=undef:=by grind[mr]
 have aet:=F k U;have aeu:=F (k+1) U;clear F;generalize args++replicate (fn.ntmps-args.length) undef=oz at*;obtain⟨j,kc,xE,fR⟩:=wF (x:=dB P true (.region nO eM false)) fR (fun o gH=>(qE L eM.toList eM.toList oz H o C.cj gH).2);have aev:=kc;have AL:=j2 L true _ _ _ _ C.cj kc;obtain⟨et,me,aw7,fR⟩:=wF (x:=dB P true (.region i1 #[mk] false)) fR (fun o gH=>(qE L [mk] [mk] j.T j.H o (AL.wf C.cj) gH).2);have Iy:hZ P (ea P n) [mk] [mk] j.T j.H=some et:=me;have Ee:=j2 L true _ _ _ _ (AL.wf C.cj) me;have En:=j2 L true _ _ _ _ (Ee.wf (AL.wf C.cj)) fR;have u1:=AK _ _ _ _ _ aev;have aw8:=(AK _ _ _ _ _ Iy).trans u1;have qM:et.T=fZ j.T t (.func (.func g) #[] #[bS j.T s]):=by
  have a:fB P (ea P n) mk ((gF [mk] mk.guard).f j.T) j.T j.H (hZ P (ea P n) [mk] [])=some et:=Iy;rw[No]at a;have a:fB P (ea P n) mk true j.T j.H (hZ P (ea P n) [mk] [])=some et:=a;unfold fB at a;simp only at a;split at a;rename_i cF e1 ah;cases a;have Iz:cF=.func (.func g) #[] #[bS j.T s]:=by
   unfold gZ at ah;split at ah;rw[ll]at ah;have ah:some (Value.func (.func g) #[] #[bS j.T s],j.H)=some (cF,e1):=ah
   simp_all
   grind
  simp_all[gz]
  grind
 have ym:bS et.T t=.func (.func g) #[] #[bS j.T s]:=by grind[sz]
 have aew:bS et.T s=bS j.T s:=by simp_all[Ej]
 have aex:u0 k et.T:=by refine⟨?_,?_,U⟩;rw[qM,Ej U,AO true k (.region nO eM false) rfl aeo _ _ _ kc];exact aet;rw[qM,Ej U,AO true (k+1) (.region nO eM false) rfl aep _ _ _ kc];exact aeu
 have Qx:fO σ H.next j.H.next:=p.left (Nat.le_trans Ee.dI En.dI);refine wpIn_seq ?_;refine wpIn_mono (wE kd L true (.region nO eM false) rfl _ _ _ kc σ h w ⟨_,[]⟩ none C Qx gC) ?_;rintro e i2 aM ⟨bO,q2,τ,h1,fu,jM⟩;rw[xE]at bO;subst bO;show(Code.seq (.region i1 #[mk,D] false) Bc).wpIn (dZ none) 0 P _ i2 aM;have i5:=C.next jM;have AR:fO τ j.H.next et.H.next:=(p.right jM.fT).left En.dI;refine wpIn_seq ?_;refine wpIn_region ?_;rw[range_eq_range'];have lI:(#[mk,D]:Array Oper).size=[mk].length+[D].length:=rfl;rw[lI];refine If kd L #[mk,D] [mk] none [D] [mk] 0 rfl a1 τ h1 j.T j.H aM i2 et i5 AR fu Iy ?_;intro lF h2 I ca b5 ax qG;have J:=Ih b5 t;rw[ym]at J;obtain⟨l,aey,J⟩:∃l,bV lF (bS j.T s) l/\I.eval (.tmp t)=.func (.func g) #[] #[l]:=by
  generalize I.eval (.tmp t)=z at J;cases J with
  | func _ _ bA _ dN ey fS _=>have cU:=ey.nN;obtain⟨y,r,dw,eh,g0⟩:=fS.k7;have gO:=g0.nN;subst gO;exact⟨y,eh,by rw[show bA=#[]from Array.ext' cU,show dN=#[y]from Array.ext' dw]⟩
 have j1:=i5.next qG;have uX:I.defers=[]:=ax.trans q2;refine PV rfl Ij i3 Ik tk J ?_;rw[aen];show Bc.wpIn (dZ none) 0 P _ _ ca;have M:fO lF et.H.next bP.H.next:=(p.right jM.fT).right qG.fT;have N:e2 B σ h H w lF h2 et.H ca:=jM.trans C Qx (qG.trans i5 AR (e2.refl j1));have aez:=Qw _ L et.T et.H bP aex (Ee.wf (AL.wf C.cj)) fR;have qN:v=.tuple #[]:=by
  rw[aer]at X;have X:some (Value.tuple #[])=some v:=X
  simp_all
 have K:∀(m:Array Value) (w:World),(results fn m).run P w=.ok (.tuple #[]) w:=by simp_all[Dn]
 refine wpIn_mono (aez B lF h2 ca {I with defers:=⟨.fn (.func g) #[l],#[]++(#[]:Array Operand).map I.eval⟩::I.defers} j1 M b5) ?_;have Eo:∀q,(invoke (.fn (.func g) #[l]) (#[]++(#[]:Array Operand).map I.eval)).run P q=.ok (.enter g #[l]) q:=by
  intro q;obtain⟨sA,El,kw,ne,aeA,_⟩:=lM.body;show(callFunc g ((#[]++(#[]:Array Operand).map I.eval)++#[l])).run P q=_;have e:(#[]++(#[]:Array Operand).map I.eval)++#[l]=#[l]:=aW
  rw[e];exact C1 kd lM.fn aeA _ _
 rintro e a3 q (⟨eA,fC,Ep,eh,g3,g4⟩|⟨u,dR,Ep,eh,dc,IA,eA,fC,g3,g4,g5,pJ,g7⟩);have lm:=N.trans C (p.left En.dI) g4;have S:LeavesIn (dZ none) 0 P fn a3.tmps (fun e aE=>∃ap τ aH,e=.returned ap/\bV τ v ap/\e2 B σ h H w τ aH bP.H aE) a3.defers .returning q:=by rw[fC];show LeavesIn (dZ none) 0 P fn a3.tmps _ (_::I.defers) .returning q;rw[uX];refine leavesIn_cons aW (fun h=>by cases h) (Eo q) (fun _ _=>trivial) ?_;refine(ael lM l q).mono ?_;rintro e rC aE ⟨⟨v0,rfl⟩,rfl,rfl⟩;exact⟨_,K _ _,_,Ep,eh,rfl,by rw[qN];exact .tuple _ _ .nil .nil,lm⟩
 cases he:bP.cG with
 | exit id=>simp_all
 | normal=>rw[he]at eA;subst eA;exact S
 | ret=>rw[he]at eA;subst eA;exact S
 subst eA;have lm:=N.trans C (p.left En.dI) (show e2 B lF h2 et.H ca Ep eh dc q from g3);have ma:=j1.next g3;obtain⟨Er,IB,_,aeB⟩:=wF g7 (fun o gH=>(qE L ops9.toList ops9.toList IA dc o ma.cj gH).2);have IB:hZ P (ea P n) ops9.toList ops9.toList IA dc=some Er:=IB;have aeC:bP.H=Er.H:=by
  have:some (⟨.ret,Er.T,Er.H⟩:eG)=some bP:=aeB
  grind
 have V:=aei wI U U U IB;rw[<- aeC,g5,aew]at V;have aeD:fO Ep dc.next bP.H.next:=M.right g3.fT;show LeavesIn (dZ none) 0 P fn a3.tmps _ a3.defers (.panicking _) q;rw[fC];show LeavesIn (dZ none) 0 P fn a3.tmps _ (_::I.defers) (.panicking _) q;rw[uX];refine leavesIn_cons aW (fun h=>by cases h) (Eo q) (fun _ _=>trivial) ?_;refine(aem kd L lM ma (aey.mono g3.fT.mono) V aeD).mono ?_;rintro e rC aE ⟨⟨v0,rfl⟩,rfl,aeE,g0,aeF⟩;have aeG:settle (.panicking [{v:=.iface u dR,recovered:=true}])=.returning:=ao
 show LeavesIn (dZ none) 0 P fn a3.tmps _ [] (settle _) aE;rw[aeG];refine⟨_,K _ _,_,aeE,g0,rfl,by rw[qN];exact .tuple _ _ .nil .nil,?_⟩;refine lm.trans C ?_ aeF;exact p.left (by exact g4.dI)
end
end Go.Ab
namespace Go.Ab
open Go
variable{P f ms ne dR kw t tys u w yt}
def yn(P:Program)(f:Nat):Func:=(P.funcs.toList[f]?).getD default
theorem yo(h:(P.funcs.toList[f]?).isSome=true):P.funcs[f]?=some (yn P f):=by simp_all[yn]
def dH:Code->Code|.seq a _=>a|c=>c
def cB:Code->Code|.seq _ b=>b|c=>c
def bU:Code->Code|.cond _ a _=>a|c=>c
def rK:Code->Array Oper|.region _ o _=>o|_=>#[]
def rL:Code->Nat|.region i _ _=>i|_=>0
def Qy:Code->Operand|.cond c _ _=>c|_=>.tmp 0
def jd(c:Code)(i:Nat):Oper:=((rK c).toList[i]?).getD default
def aeH(o:Oper):Call:=match o.op with|.defer c=>c|.call c=>c|_=>default
theorem Qz(h:kw.op=.call ⟨.builtin .recover,#[],tys⟩)(A:Act)(w:World):(execOp A.eval kw).run P w=.ok .recover w:=by obtain⟨c,b,e,d,a,guard⟩:=kw;subst h;rfl
theorem aeI(a:P.underlying t=some (.interface ms)):(Op.equal t (.iface u dR) .nilIface).run P w=.ok false w:=by show(Op.equalIn (9999+1) t (.iface u dR) .nilIface).run P w=_;generalize 9999=d;simp only[Op.equalIn,Sem.run_bind,run_underlying a,Result.andThen_ok,Sem.run_pure]
theorem aeJ(a:P.underlying t=some (.interface ms)):(Op.equal t .nilIface .nilIface).run P w=.ok true w:=by show(Op.equalIn (9999+1) t .nilIface .nilIface).run P w=_;generalize 9999=d;simp only[Op.equalIn,Sem.run_bind,run_underlying a,Result.andThen_ok,Sem.run_pure]
theorem QA(h:ne.op=.binOp .neq t (.tmp 1) (.const .nilIface) yt)(e:P.underlying t=some (.interface ms)):
  (∀(A:Act) w u dR,A.eval (.tmp 1)=.iface u dR->(execOp A.eval ne).run P w=.ok (.value (.bool true)) w)/\(∀(A:Act) w,A.eval (.tmp 1)=.nilIface->(execOp A.eval ne).run P w=.ok (.value (.bool false)) w):=by
 obtain⟨c,b,f,d,a,guard⟩:=ne;have g:∀A:Act,A.eval (.const .nilIface)=.nilIface:=fun _=>rfl
 simp_all[execOp,eqGuard,binOp,aeI,aeJ]
end Go.Ab
