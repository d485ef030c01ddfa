/- texts of the pv, gd behind the oq -/
import Derived.Test.YtifflnhooaophaaGreatDoorUL
set_option linter.unusedVariables false
set_option linter.unusedSimpArgs false
set_option linter.unusedSectionVars false
set_option maxHeartbeats 4000000
set_option maxRecDepth 100000
namespace J
open Go Go.Ab
variable[cu:b0]
variable{H:au}{S F X:List (Nat×az)}{aa:VH}{v w cW bb a6:Value}{ar:List Value}{p n i j bN cf du dg bQ cE:Nat}{e a hr:Int}{fs:List UInt8}{bf:hC}{l:dV}{bz:List (Int×List Int)}{cU:List jl}{m:df}
theorem iD{α:Type}{um zf:List α}(h:∀p:α->Bool,um.countP p=zf.countP p):um.Perm zf:=by
 classical
 rw[List.perm_iff_count];intro a;exact h (· == a)
theorem ay3(m:df)(i:Int):0<=(gw m i).1/\(gw m i).1<=65536:=by
 unfold gw;split
 ·omega
 ·rename_i h;have aV:eB m:=Classical.not_not.1 fun a7=>h (.inl a7)
  simp_all[LH]
structure dV.b1 (l:dV):Prop where
 fs:l.fs.length<=1000000
 left:l.left<=100
 w:-2<=l.eo/\l.eo<=1000
 ew:∀h m,l.dc=some (h,m)->eB m/\0<=h/\h<=2304/\-2<=l.eo/\l.eo<m.a1.length
 kK:l.dc=none->l.eo=-1\/l.eo=-2
theorem agd(h:eB m):m.a1.length<=64:=by simp_all[eB]
theorem dV.b1.bu(h:l.b1)(e:Int):({l with bu:=e}:dV).b1:=⟨h.fs,h.left,h.w,h.ew,h.kK⟩
theorem age{vY:Nat}(h:l.b1)(ao:l.dc=none)(aM:a=-1\/a=-2)(aD:vY<=100):({l with left:=vY,eo:=a}:dV).b1:=
 ⟨h.fs,aD,by grind,fun g m a7=>(by simp_all),fun _=>aM⟩
theorem agf{vY:Nat}(h:l.b1){cb:Int}(aV:eB m)(ad:0<=cb)(af:cb<=2304)(aM:-2<=a/\a<m.a1.length)(aD:vY<=100):({l with left:=vY,eo:=a,dc:=some (cb,m)}:dV).b1:=by have bL:=agd aV;exact⟨h.fs,aD,by grind,fun A8 lM a7=>(by simp_all),fun a7=>(by cases a7)⟩
theorem agh{vY:Nat}(h:l.b1){cb:Int}(ao:l.dc=some (cb,m))(aM:-2<=a/\a<m.a1.length)(aD:vY<=100):({l with left:=vY,eo:=a}:dV).b1:=by obtain⟨ad,af,ax,_⟩:=h.ew cb m ao;have:=agf h ad af ax aM aD;rw[<- ao]at this;exact this
theorem dV.b1.try(h:l.b1):l.try.2.b1:=by
 unfold dV.try;split
 ·exact h.bu 191
 ·exact⟨h.fs,by have:=h.left;grind,h.w,h.ew,h.kK⟩
theorem SZ(l:dV):l.dc=none\/∃g m,l.dc=some (g,m):=by
 cases ao:l.dc with
 | none=>simp_all
 | some y=>grind
theorem Ta(ao:l.dc=none):l.on={l with eo:=-2}:=by simp_all[dV.on]
theorem Tb{cb:Int}(ao:l.dc=some (cb,m)):l.on={l with eo:=if l.eo+1=m.a1.length then-2 else l.eo+1}:=by grind[dV.on]
theorem agi(ao:l.dc=none):l.rS a=decide (a=-1):=by simp_all[dV.rS]
theorem agj{cb:Int}(ao:l.dc=some (cb,m)):l.rS a=decide (0<=a/\a<m.a1.length):=by simp_all[dV.rS]
theorem dV.b1.on(h:l.b1):l.on.b1:=by
 rcases SZ l with ao|⟨g,m,ao⟩
 ·rw[Ta ao];exact age h ao (.inr rfl) h.left
 ·obtain⟨ad,af,ax,aO,bl⟩:=h.ew g m ao;rw[Tb ao];refine agh (vY:=l.left) h ao ?_ h.left;omega
theorem dV.b1.follow(h:l.b1)(s:jl):(l.follow s).b1:=by
 unfold dV.follow;split
 ·rename_i a;split
  ·exact h.bu 192
  ·rename_i aA;have aA:l.rS a=true:=by simp_all
   split
   ·exact h.bu 191
   ·have aD:=h.left;rcases SZ l with ao|⟨g,m,ao⟩
    ·rw[agi ao]at aA;exact age (vY:=l.left-1) h ao (.inl (of_decide_eq_true aA)) (by omega)
    ·rw[agj ao]at aA;have aA:=of_decide_eq_true aA;exact agh (vY:=l.left-1) (a:=a) h ao (by omega) (by omega)
 ·rename_i g m;split
  ·exact h.bu 192
  ·rename_i aA;rw[not_or,not_or,not_or]at aA;have aV:eB m:=Classical.not_not.1 aA.2.1;have bM:0<m.a1.length:=by have fo:=aV.2.2.2.2.2.2.2.2.1;unfold l9 at fo;have ad:=aV.2.2.2.1;have af:=aV.2.2.2.2.2.1;rw[if_neg (by omega)]at fo;have:=Int.ediv_nonneg (show 0<=m.c0-1 by omega) (show 0<=m.aE by omega);omega
   exact agf (a:=0) h aV (by omega) (by omega) (by omega) h.left
 ·exact h.bu 192
theorem dV.b1.step(h:l.b1):(iC n l bz cU bf).2.1.b1:=by
 unfold iC;split
 ·exact h
 ·split
  ·exact h.follow _
  ·split
   ·exact h
   ·simp only;split
    ·exact h.on
    ·split
     ·exact h.try
     ·exact h.bu _
theorem ay4(gi:vW S a6 l.dc)(fC:l.b1)(aM:l.eo≠-2)(bc:pZ S cf cW bf)(aA:bf.du<=1000000)(hO:al H ((S++F)++[(dg,⟨gC bN bQ cE l a6,true⟩),(bN,⟨fX cf cW bf.du,true⟩)]))
  (ag:∀ab aQ jS X,cl (S++X) aQ (bf.mS l.fs l.jn.1 l.jn.2).1.1->ct (bf.mS l.fs l.jn.1 l.jn.2).1.1->(bf.mS l.fs l.jn.1 l.jn.2).1.1.length<=10000->((bf.mS l.fs l.jn.1 l.jn.2).1.1≠[]->pR (S++X) aQ)->pZ (S++X) cf jS (bf.mS l.fs l.jn.1 l.jn.2).2->
   al ab (((S++X)++F)++[(dg,⟨gC bN bQ cE l a6,true⟩),(bN,⟨fX cf jS (bf.mS l.fs l.jn.1 l.jn.2).2.du,true⟩)])->aa (.tuple [aQ,int (bf.mS l.fs l.jn.1 l.jn.2).1.2].toArray) ab):wCall P 129 [ak dg 0] H aa:=by
 apply apP;unfold ZS;have p0:∀ {x},((S++F)++[(dg,(⟨gC bN bQ cE l a6,true⟩:az)),x])[(S++F).length+0]?=some (dg,⟨gC bN bQ cE l a6,true⟩):=aC rfl;have nk:∀ {H:au} {a hr:Int},l.jn=(a,hr)->al H ((S++F)++[(dg,⟨gC bN bQ cE l a6,true⟩),(bN,⟨fX cf cW bf.du,true⟩)])->wCall P 187 [ak bN 0,bZ l.fs,int a,int hr] H fun Ei Sq=>ae (eA 0 Ei) fun t20=>ae (eA 1 Ei) fun t21=>aa (.tuple [t20,t21].toArray) Sq:=by intro H a hr br hO;rw[br]at ag;have dJ:al H ((S++(F++[(dg,(⟨gC bN bQ cE l a6,true⟩:az))]))++[(bN,⟨fX cf cW bf.du,true⟩)]):=hO.fP (iD fun p=>by simp_all);refine ay1 bc fC.fs aA dJ ?_;intro ab aQ jS X ad af ax aO bl bL;exact ai km (ai kn (ag ab aQ jS X ad af ax aO bl (bL.fP (iD fun p=>by simp_all))))
 refine aY (aZ hO _ p0 (v:=int l.eo) rfl (ai fz (bT (fun h=>?_) (fun h=>?_))))
 ·exact aY (aZ hO _ p0 (v:=ak bN 0) rfl (aY (aZ hO _ p0 (v:=bZ l.fs) rfl (nk (by simp_all[dV.jn]) hO))))
 ·cases ao:l.dc with
  | none=>rcases fC.kK ao with a7|a7<;>contradiction
  | some y=>obtain⟨cb,m⟩:=y;obtain⟨fj,fl,iJ,_⟩:=fC.ew cb m ao;rw[ao]at gi;obtain⟨g,j,bb,rfl,bp,l7,ok⟩:=gi;refine aY (aZ hO _ p0 (v:=ak g 0) rfl (aY (jM (ar:=b4 m bb) hO j (aS (aS bp)) (by show((int cb::b4 m bb).drop 1).take 37=_;rw[List.drop_one,List.tail_cons];exact List.take_of_length_le (by rw[e1 ok.dR];omega)) (e1 ok.dR) (by omega) (aY (aZ hO _ p0 (v:=int l.eo) rfl (R8 ok (l7.bo.bo) hO ?_))))));clear hO;intro H hO;refine ai km (ai kn (aY (aZ hO _ p0 (v:=ak bN 0) rfl (aY (aZ hO _ p0 (v:=bZ l.fs) rfl (aY (aZ hO _ p0 (v:=ak g 0) rfl (aY (aZ hO _ (aS (aS bp)) (v:=int cb) rfl ?_)))))))));have an:=ay3 m l.eo;exact ai (mn (by omega) (by omega)) (nk (by simp_all[dV.jn]) hO)
end J
namespace J
open Go Go.Ab
variable[cu:b0]
variable{H:au}{Γ S F X:List (Nat×az)}{aa:VH}{v w cW a6:Value}{ar bx dX:List Value}{p q o n i j bN cf du dg:Nat}{e a:Int}{aj:List Int}{f:pq}{fs:List UInt8}{bf:hC}{l aG:dV}{A B:fW}{bz:List (Int×List Int)}{cU:List jl}{m:df}
structure Ch (S:List (Nat×az)) (A B:fW) (cf:Nat) (a6 cW:Value) (l:dV) (bz:List (Int×List Int)) (cU:List jl) (bf:hC):Prop where
 a:pU S A bz
 b:oj S B cU
 ew:vW S a6 l.dc
 bf:pZ S cf cW bf
 ok:l.b1
def q9(A B:fW)(dg bN cf:Nat)(a6 cW:Value)(l:dV)(du:Nat):List (Nat×az):=
 [(A.q,⟨A.ar,true⟩),(A.r,⟨c8 A.q A.n 2 A.f A.aP.length,true⟩),(B.q,⟨B.ar,true⟩),(B.r,⟨c8 B.q B.n 1 B.f B.aP.length,true⟩),(dg,⟨gC bN A.r B.r l a6,true⟩),(bN,⟨fX cf cW du,true⟩)]
theorem ay5(a:Int)(p:Option Addr)(n c:Nat):(di P 179).f [(0,int a),(1,.slice p n c)]=some (agg [int a,.slice p n c]):=by rfl
theorem cl.fv(h:cl Γ v aj):fH v=true:=by rcases h with⟨rfl,_⟩|⟨p,o,c,rfl,_⟩<;>rfl
theorem cl.agk(h:cl Γ v aj):eP v=true:=by rcases h with⟨rfl,_⟩|⟨p,o,c,rfl,_⟩<;>rfl
theorem ay6(h:Ch S A B cf a6 cW l bz cU bf)(aA:bf.du<=1000000)(hO:al H ((S++F)++q9 A B dg bN cf a6 cW l bf.du))
  (ag:∀ab X ho dn w4 jS,fW.fg A ho->fW.fg B dn->Ch (S++X) ho dn cf w4 jS (iC A.n l bz cU bf).2.1 (iC A.n l bz cU bf).2.2.1 (iC A.n l bz cU bf).2.2.2.1 (iC A.n l bz cU bf).2.2.2.2->
   al ab (((S++X)++F)++q9 ho dn dg bN cf w4 jS (iC A.n l bz cU bf).2.1 (iC A.n l bz cU bf).2.2.2.2.du)->aa (.bool (iC A.n l bz cU bf).1) ab):wCall P 61 [ak dg 0] H aa:=by
 apply ao3;unfold Y6;obtain⟨br,an,gi,sv,fC⟩:=h;have p0:∀ {A B:fW} {a6 cW:Value} {l:dV} {du:Nat},((S++F)++q9 A B dg bN cf a6 cW l du)[(S++F).length+4]?=some (dg,⟨gC bN A.r B.r l a6,true⟩):=aC rfl;have kL:al H ((S++F)++q9 A B dg bN cf a6 cW l bf.du)->iC A.n l bz cU bf=(false,l,bz,cU,bf)->aa (.bool false) H:=by intro hO e;rw[e]at ag;exact ag H [] A B a6 cW .gm .gm (by rw[List.append_nil];exact⟨br,an,gi,sv,fC⟩) (by rw[List.append_nil];exact hO)
 refine aY (aZ hO _ p0 (v:=int l.bu) rfl (ai jh (bT (fun he=>?_) (fun he=>?_))))
 ·exact kL hO (by simp_all[iC])
 refine aY (aZ hO _ p0 (v:=ak B.r 0) rfl (aeQ (Γ:=S++F) (i:=3) (j:=2) hO rfl rfl (by decide) an.mQ ?_ ?_))
 ·intro Fw;have mF:cU=[]:=by
   have:=an.len
   grind
  subst mF;refine ai km (ai kn (eX rfl ?_));have th:=br.len;have afn:=br.mQ.uG;have agb:=br.zT;refine gb (fun aG ab=>aG=[ak dg 0]/\ab=H/\l.eo≠-2/\bz.length≠A.n) ?_ ?_
  ·refine aY (aZ hO _ p0 (v:=int l.eo) rfl (ai fz (bT (fun ad=>?_) (fun ad=>?_))))
   ·exact ai (ju ad) (fU rfl (kL hO (by simp_all[iC])))
   ·refine aY (aZ hO _ p0 (v:=ak A.r 0) rfl (aeM (Γ:=S++F) (i:=1) hO rfl br.mQ.q4 afn (ai fz (ai (kV ad) (bT (fun af=>?_) (fun af=>?_))))))
    ·exact kL hO (by unfold iC;grind)
    ·exact⟨rfl,rfl,ad,by omega⟩
  rintro aG ab ⟨rfl,rfl,aM,bM⟩
  try simp only[cR,cS]
  have dJ:al ab ((S++(F++[(A.q,⟨A.ar,true⟩),(A.r,⟨c8 A.q A.n 2 A.f A.aP.length,true⟩),(B.q,⟨B.ar,true⟩),(B.r,⟨c8 B.q B.n 1 B.f B.aP.length,true⟩)]))++[(dg,⟨gC bN A.r B.r l a6,true⟩),(bN,⟨fX cf cW bf.du,true⟩)]):=
   hO.fP (iD fun p=>by simp_all[q9])
  refine ay4 gi fC aM sv aA dJ ?_;clear dJ hO kL;intro H v jS X bX b7 g3 g4 g5 hO
  replace hO:al H (((S++X)++F)++q9 A B dg bN cf a6 jS l (bf.mS l.fs l.jn.1 l.jn.2).2.du):=
   hO.fP (iD fun p=>by simp_all[q9])
  unfold iC at ag;rw[if_neg he]at ag;simp only at ag;rw[if_neg (by omega)]at ag;generalize hf:bf.mS l.fs l.jn.1 l.jn.2=r at*;obtain⟨⟨Cf,Tc⟩,fn⟩:=r;simp only at ag bX b7 g3 g4 g5 hO⊢;have Td:∀ {A B:fW} {a6 cW:Value} {l:dV} {du:Nat},(((S++X)++F)++q9 A B dg bN cf a6 cW l du)[((S++X)++F).length+4]?=some (dg,⟨gC bN A.r B.r l a6,true⟩):=aC rfl;refine ai km (ai kn (ai fz (bT (fun ad=>?_) (fun ad=>?_))))
  ·rw[if_pos ad]at ag;refine aY (aZ hO _ Td (v:=ak A.r 0) rfl (aY (aZ hO _ Td (v:=int l.eo) rfl ?_)));obtain⟨av,r5,kz,tZ⟩:=bX.lC;subst tZ;refine ai (ay5 _ _ _ _) (avX (Γ:=(S++X)++F) (i:=1) (j:=0) hO rfl rfl (by decide) br.mQ (cl.fv bX) (cl.agk bX) (fun af=>absurd af (by omega)) ?_);clear hO;intro _ cD bx x3 hO;have dJ:al cD (((S++X)++(F++[(A.q,⟨bx,true⟩),(A.r,⟨c8 A.q A.n 2 A.f (A.aP.length+1),true⟩),(B.q,⟨B.ar,true⟩),(B.r,⟨c8 B.q B.n 1 B.f B.aP.length,true⟩),(bN,⟨fX cf jS fn.du,true⟩)]))++[(dg,⟨gC bN A.r B.r l a6,true⟩)]):=
    hO.fP (iD fun p=>by simp only[q9,List.set_cons_zero,List.set_cons_succ,List.countP_append,List.countP_cons,List.countP_nil];omega)
   refine ayN gi.bo fC.w dJ ?_;clear hO dJ;intro iM hO;refine ag iM X (A.lp bx [int l.eo,.slice av r5 kz]) B a6 jS B5 .gm ?_ ?_
   ·refine⟨br.bo.lp x3 ⟨_,rfl,bX,b7,g4⟩ (by grind),an.bo,?_,g5,fC.on⟩;rcases SZ l with ao|⟨g,m,ao⟩
    ·rw[Ta ao];exact gi.bo
    ·rw[Tb ao];exact gi.bo
   ·have dd:al iM (((S++X)++F)++[(A.q,⟨bx,true⟩),(A.r,⟨c8 A.q A.n 2 A.f (A.aP.length+1),true⟩),(B.q,⟨B.ar,true⟩),(B.r,⟨c8 B.q B.n 1 B.f B.aP.length,true⟩),(dg,⟨gC bN A.r B.r l.on a6,true⟩),(bN,⟨fX cf jS fn.du,true⟩)]):=
     hO.fP (iD fun p=>by grind)
    rw[<- Sd (bx:=bx) (dX:=[int l.eo,.slice av r5 kz]) A]at dd;exact dd
  rw[if_neg ad]at ag;refine ai fz (bT (fun af=>?_) (fun af=>?_))
  ·rw[if_pos af]at ag;have dJ:al H (((S++X)++(F++[(A.q,⟨A.ar,true⟩),(A.r,⟨c8 A.q A.n 2 A.f A.aP.length,true⟩),(B.q,⟨B.ar,true⟩),(B.r,⟨c8 B.q B.n 1 B.f B.aP.length,true⟩),(bN,⟨fX cf jS fn.du,true⟩)]))++[(dg,⟨gC bN A.r B.r l a6,true⟩)]):=
    hO.fP (iD fun p=>by simp only[q9,List.countP_append,List.countP_cons,List.countP_nil];omega)
   refine af1 (Nat.le_trans fC.left (by omega)) dJ ?_;clear hO dJ;intro iM hO;refine ag iM X A B a6 jS .gm .gm ⟨br.bo,an.bo,?_,g5,fC.try⟩ ?_
   ·unfold dV.try;split<;>exact gi.bo
   ·exact hO.fP (iD fun p=>by simp only[q9,List.countP_append,List.countP_cons,List.countP_nil];omega)
  ·rw[if_neg af]at ag;refine aY (fQ hO _ Td rfl (show 7<8 by omega) (bx:=gC bN A.r B.r {l with bu:=Tc} a6) rfl ?_);clear hO;intro iM hO;rw[Go.Ab.cy]at hO;exact ag iM X A B a6 jS .gm .gm ⟨br.bo,an.bo,gi.bo,g5,fC.bu Tc⟩ hO
 ·intro a bu Fw cD bx x3 dd;cases mF:cU with
  | nil=>rw[mF]at an;have:=an.len;rw[Fw]at this;simp at this
  | cons ej r=>
   rw[mF]at ag an;obtain⟨cr,Sg,xF,ay7,th⟩:=an.tail;rw[Fw]at xF;injection xF with bn bF
   injection bn with bn _
   subst bn bF;unfold iC at ag;rw[if_neg he]at ag;simp only at ag;refine ai km (ai kn (fU rfl ?_));have dJ:al cD ((S++(F++[(A.q,⟨A.ar,true⟩),(A.r,⟨c8 A.q A.n 2 A.f A.aP.length,true⟩),(B.q,⟨bx,true⟩),(B.r,⟨c8 B.q B.n 1 ((B.f+1)%B.n) bu.length,true⟩),(bN,⟨fX cf cW bf.du,true⟩)]))++[(dg,⟨gC bN A.r B.r l a6,true⟩)]):=
    dd.fP (iD fun p=>by simp only[q9,List.set_cons_zero,List.set_cons_succ,List.countP_append,List.countP_cons,List.countP_nil];omega)
   refine ayO gi (Nat.le_trans fC.left (by omega)) ay7 dJ ?_;clear hO dJ dd kL;intro iM w4 X ay8 hO;exact ag iM X A (B.dP bx bu) w4 cW .gm LP ⟨br.bo,⟨x3,th.LO fun _ _=>uI.bo⟩,ay8,sv.bo,fC.follow ej⟩ (hO.fP (iD fun p=>by simp only[q9,fW.dP,List.countP_append,List.countP_cons,List.countP_nil];omega))
end J
namespace J
open Go Go.Ab
variable[cu:b0]
variable{H:au}{Γ S F N R:List (Nat×az)}{aa:VH}{v w:Value}{ar bx:List Value}{p q r n f i k m N:Nat}{hs st:Int}
theorem ay9(x:Value)(H:au):(tN P .clear [134]).f [x] H=yE [int 0,bB] x H:=by rfl
theorem aza(x:Value)(H:au):(tN P .clear [269]).f [x] H=yE [.nilIface] x H:=by rfl
theorem agl{z:List Value}(h:z.all eP=true):∀n,(fS n z).all eP=true
 | 0=>rfl
 | n+1=>by show(hT z (fS n z)).all eP=true;rw[iF,List.all_append,h,agl h n];rfl
theorem agm{z:List Value}{c:Nat}{aa:VH}(hO:al H Γ)(aq:Γ[i]?=some (q,⟨ar,true⟩))(aD:ar.length=n*z.length)(ad:z.all eP=true)(ag:∀ab bx,al ab (Γ.set i (q,⟨bx,true⟩))->aa (.tuple #[]) ab):ah (yE z (aF q 0 n c) H) aa:=by
 unfold yE;simp only;by_cases aR:Nat.beq n 0=true
 ·rw[if_pos aR];exact cH rfl (ag H ar (by rw[O4 aq];exact hO))
 ·rw[if_neg aR];obtain⟨ab,aM,aw⟩:=F8 (o:=0) (bV:=fS n z) hO aq (by rw[IA];omega) (agl ad n);rw[aM];exact cH rfl (ag ab _ aw)
theorem azb(hO:al H (Γ++[(q,⟨ar,true⟩),(r,⟨c8 q n 2 f k,true⟩)]))(aD:ar.length=n*2)(ag:∀ab,al ab Γ->aa (int k) ab):wCall P 153 [ak r 0] H aa:=by
 apply aqh;unfold aaw;refine aY (aZ hO (Γ.length+1) (aC rfl) (v:=int k) rfl (aY (aZ hO (Γ.length+1) (aC rfl) (v:=aF q 0 n 5) rfl ?_)));rw[ay9];refine agm hO (i:=Γ.length+0) (aC rfl) aD rfl ?_;clear hO;intro H oh hO;rw[Go.Ab.cy]at hO
 replace hO:al H (Γ++[(q,⟨oh,true⟩),(r,⟨c8 q n 2 f k,true⟩)]):=hO
 refine aY (fQ hO (Γ.length+1) (aC rfl) rfl (show 1<4 by omega) (bx:=[aF q 0 n 5,int 0,int k,.bool false]) rfl ?_);clear hO;intro H hO;rw[Go.Ab.cy]at hO;refine aY (fQ hO (Γ.length+1) (aC rfl) rfl (show 2<4 by omega) (bx:=[aF q 0 n 5,int 0,int 0,.bool false]) rfl ?_);clear hO;intro H hO;rw[Go.Ab.cy]at hO;refine aY (fQ hO (Γ.length+1) (aC rfl) rfl (show 3<4 by omega) (bx:=[aF q 0 n 5,int 0,int 0,.bool true]) rfl ?_);clear hO;intro H hO;rw[Go.Ab.cy]at hO;exact ag H hO.left
theorem agn(hO:al H (Γ++[(q,⟨ar,true⟩),(r,⟨c8 q n 1 f k,true⟩)]))(aD:ar.length=n*1)(ag:∀ab,al ab Γ->aa (int k) ab):wCall P 154 [ak r 0] H aa:=by
 apply aqi;unfold aax;refine aY (aZ hO (Γ.length+1) (aC rfl) (v:=int k) rfl (aY (aZ hO (Γ.length+1) (aC rfl) (v:=aF q 0 n 3) rfl ?_)));rw[aza];refine agm hO (i:=Γ.length+0) (aC rfl) aD rfl ?_;clear hO;intro H oh hO;rw[Go.Ab.cy]at hO
 replace hO:al H (Γ++[(q,⟨oh,true⟩),(r,⟨c8 q n 1 f k,true⟩)]):=hO
 refine aY (fQ hO (Γ.length+1) (aC rfl) rfl (show 1<4 by omega) (bx:=[aF q 0 n 3,int 0,int k,.bool false]) rfl ?_);clear hO;intro H hO;rw[Go.Ab.cy]at hO;refine aY (fQ hO (Γ.length+1) (aC rfl) rfl (show 2<4 by omega) (bx:=[aF q 0 n 3,int 0,int 0,.bool false]) rfl ?_);clear hO;intro H hO;rw[Go.Ab.cy]at hO;refine aY (fQ hO (Γ.length+1) (aC rfl) rfl (show 3<4 by omega) (bx:=[aF q 0 n 3,int 0,int 0,.bool true]) rfl ?_);clear hO;intro H hO;rw[Go.Ab.cy]at hO;exact ag H hO.left
structure iO where
 A:fW
 B:fW
 C:fW
 c:Nat
 w:Nat
 b6:Nat
 dg:Nat
 bN:Nat
 cf:Nat
 cq:Nat
 ej:Nat
 dU:Nat
 o7:Value
 a6:Value
 cW:Value
 b9:Value
 cF:Value
 EN:Value
 EO:Value
 T:List (Nat×az)
 L:lG
def iO.W(q:iO):jm:={A:=q.C,b9:=q.EN,hq:=q.EO,l:=q.b6,c:=q.w,L:=q.L}
def iO.aE(q:iO)(p:dY):List Value:=fe q.o7 p.c.t q.A.r q.B.r q.C.r p.c.aW q.b9 q.cF p.c.cZ p.c.bu
def mT(q:iO)(pk:Nat)(st hs:Int):List Value:=[ak q.b6 0,bS .u64 pk,ak q.A.r 0,ak q.B.r 0,ak q.C.r 0,ak q.dg 0,ak q.c 0,ak q.w 0,ak q.cq 0,int st,int hs]
def rU(q:iO)(p:dY):List (Nat×az):=
 [(q.c,⟨q.aE p,true⟩),(q.b6,⟨fr p.w.s q.L.cV,true⟩),(q.w,⟨q.W.j0 p.w,true⟩),(q.bN,⟨fX q.cf q.cW p.bf.du,true⟩),(q.cq,nz p.d.fB p.d.mb q.ej p.d.e5.length),(q.ej,nA p.d.e5),(q.dU,⟨mT q p.w.cA p.st p.hs,true⟩)]++dQ q.L p.w.m
def yv(q:iO)(p:dY):List (Nat×az):=
 [(q.A.q,⟨q.A.ar,true⟩),(q.A.r,⟨c8 q.A.q q.A.n 2 q.A.f q.A.aP.length,true⟩),(q.B.q,⟨q.B.ar,true⟩),(q.B.r,⟨c8 q.B.q q.B.n 1 q.B.f q.B.aP.length,true⟩),(q.C.q,⟨q.C.ar,true⟩),(q.C.r,⟨c8 q.C.q q.C.n 1 q.C.f q.C.aP.length,true⟩),(q.dg,⟨gC q.bN q.A.r q.B.r p.l q.a6,true⟩)]++q.T
structure ago (S:List (Nat×az)) (q:iO) (p:dY):Prop where
 aE:uJ S p.c q.A q.B q.C q.o7 q.b9 q.cF q.T
 cI:Ch S q.A q.B q.cf q.a6 q.cW p.l p.c.er p.c.cU p.bf
 wr:j2 S {p.w with q:=p.c.e7} q.W
 r5:q.A.n=p.c.bN
 c0:0<=p.w.aW.c0
structure tE (S:List (Nat×az)) (q:iO) (p:dY) (N:Nat):Prop where
 z7:p.c.aW.b1
 Ci:fR S q.b9 p.c.aW.a1
 Cj:q.cF=.pointer none\/∃st,q.cF=ak st 0
 Ck:ae3 q.cF=p.c.aw.isSome
 w5:p.w.aW.b1
 s:p.w.s.b1
 m:pn p.w.m
 own:lk q.L p.w.m
 ko:p.w.m.hR N
 bf:pZ S q.cf q.cW p.bf
 du:p.bf.du<=N
 jg:p.d.e5.length=3
 kT:∀y∈p.d.e5,0<=y/\y<=p.d.fB
 l6:p.d.fB<=1099511627776
 fa:p.st=1->ago S q p
def en(H:au)(S F:List (Nat×az))(q:iO)(p:dY)(N:Nat):Prop:=tE S q p N/\∃R,(p.st=1->R=yv q p)/\al H ((S++(F++R))++rU q p)
structure iO.fg (q gL:iO):Prop where
 dU:gL.dU=q.dU
 bN:gL.bN=q.bN
 cf:gL.cf=q.cf
 b6:gL.b6=q.b6
 L:q.L.Eq gL.L
theorem iO.fg.gm{q:iO}:q.fg q:=⟨rfl,rfl,rfl,rfl,.gm⟩
theorem iO.fg.trans{q gL ca:iO}(h:q.fg gL)(a7:gL.fg ca):q.fg ca:=⟨a7.dU.trans h.dU,a7.bN.trans h.bN,a7.cf.trans h.cf,a7.b6.trans h.b6,h.L.trans a7.L⟩
variable{q:iO}{p:dY}
theorem kJ{k:Nat}{x:Nat×az}(h:(rU q p)[k]?=some x):((S++(F++R))++rU q p)[(S++(F++R)).length+k]?=some x:=aC h
theorem L9(h:en H S F q p N)(ag:aa (int p.st) H):wCall P 15 [ak q.dU 0] H aa:=by obtain⟨_,R,_,hO⟩:=h;apply Yv;unfold Qf;exact aY (aZ hO _ (kJ (k:=6) rfl) (v:=int p.st) rfl ag)
theorem azc(h:en H S F q p N)(ag:aa (int p.hs) H):wCall P 19 [ak q.dU 0] H aa:=by obtain⟨_,R,_,hO⟩:=h;apply YA;unfold Qg;exact aY (aZ hO _ (kJ (k:=6) rfl) (v:=int p.hs) rfl ag)
theorem azd(h:en H S F q p N)(ag:aa (int p.w.wr) H):wCall P 21 [ak q.dU 0] H aa:=by obtain⟨bc,R,_,hO⟩:=h;apply aoB;unfold YB;refine aY (aZ hO _ (kJ (k:=6) rfl) (v:=ak q.w 0) rfl ?_);apply apg;unfold Zk;exact aY (aZ hO _ (kJ (k:=2) rfl) (v:=int p.w.wr) (Sx bc.w5.dR) ag)
theorem aze(h:en H S F q p N)(ag:aa (int p.d.Hn) H):wCall P 28 [ak q.dU 0] H aa:=by obtain⟨bc,R,_,hO⟩:=h;apply aoF;unfold YF;refine aY (aZ hO _ (kJ (k:=6) rfl) (v:=ak q.cq 0) rfl ?_);have ad:=bc.jg;exact afV hO _ _ (kJ (k:=4) rfl) (kJ (k:=5) rfl) (by omega) (by omega) bc.kT bc.l6 ag
theorem azf{s:gK}{t:Nat}(h:s.b1):(s.drop t).b1:=by
 unfold gK.drop;split
 ·exact⟨by simp_all,h.p⟩
 ·exact h
theorem Ma(fT:st≠1)(h:en H S F q p N)(ad:p.st=1)(ag:∀ab,en ab S F q (p.lB st hs) N->aa (.tuple [].toArray) ab):wCall P 85 [ak q.dU 0,int st,int hs] H aa:=by
 obtain⟨bc,R,U,hO⟩:=h;obtain rfl:=U ad;have hL:=bc.fa ad;apply apr;unfold Zu;have eD:∃G,G=(S++F)++(((q.dg,(⟨gC q.bN q.A.r q.B.r p.l q.a6,true⟩:az))::q.T)++([(q.c,(⟨q.aE p,true⟩:az)),(q.w,⟨q.W.j0 p.w,true⟩),(q.bN,⟨fX q.cf q.cW p.bf.du,true⟩),(q.cq,nz p.d.fB p.d.mb q.ej p.d.e5.length),(q.ej,nA p.d.e5)]++dQ q.L p.w.m)):=⟨_,rfl⟩;obtain⟨G,eD⟩:=eD;have dJ:al H (G++[(q.dU,⟨mT q p.w.cA p.st p.hs,true⟩),(q.b6,⟨fr p.w.s q.L.cV,true⟩),(q.A.q,⟨q.A.ar,true⟩),(q.A.r,⟨c8 q.A.q q.A.n 2 q.A.f q.A.aP.length,true⟩),(q.B.q,⟨q.B.ar,true⟩),(q.B.r,⟨c8 q.B.q q.B.n 1 q.B.f q.B.aP.length,true⟩),(q.C.q,⟨q.C.ar,true⟩),(q.C.r,⟨c8 q.C.q q.C.n 1 q.C.f q.C.aP.length,true⟩)]):=by rw[eD];exact hO.fP (iD fun p=>by simp only[rU,yv,List.countP_append,List.countP_cons,List.countP_nil];omega)
 clear hO;refine aY (fQ dJ (G.length+0) (aC rfl) rfl (show 9<11 by omega) (bx:=mT q p.w.cA st p.hs) rfl ?_);clear dJ;intro H hO;rw[Go.Ab.cy]at hO;refine aY (fQ hO (G.length+0) (aC rfl) rfl (show 10<11 by omega) (bx:=mT q p.w.cA st hs) rfl ?_);clear hO;intro H hO;rw[Go.Ab.cy]at hO;refine aY (aZ hO (G.length+0) (aC rfl) (v:=ak q.b6 0) rfl (aY (aZ hO (G.length+0) (aC rfl) (v:=bS .u64 p.w.cA) rfl ?_)));have dJ:al H (((G++[(q.dU,⟨mT q p.w.cA st hs,true⟩)])++[(q.b6,⟨fr p.w.s q.L.cV,true⟩)])++[(q.A.q,⟨q.A.ar,true⟩),(q.A.r,⟨c8 q.A.q q.A.n 2 q.A.f q.A.aP.length,true⟩),(q.B.q,⟨q.B.ar,true⟩),(q.B.r,⟨c8 q.B.q q.B.n 1 q.B.f q.B.aP.length,true⟩),(q.C.q,⟨q.C.ar,true⟩),(q.C.r,⟨c8 q.C.q q.C.n 1 q.C.f q.C.aP.length,true⟩)]):=
  hO.fP (iD fun p=>by simp_all)
 clear hO;refine awY dJ ?_;clear dJ;intro H hO;refine aY (aZ hO (G.length+0) (aS (aS (aC rfl))) (v:=ak q.A.r 0) rfl ?_);have dJ:al H ((((G++[(q.dU,⟨mT q p.w.cA st hs,true⟩)])++[(q.b6,⟨fr (p.w.s.drop p.w.cA) q.L.cV,true⟩)])++[(q.B.q,⟨q.B.ar,true⟩),(q.B.r,⟨c8 q.B.q q.B.n 1 q.B.f q.B.aP.length,true⟩),(q.C.q,⟨q.C.ar,true⟩),(q.C.r,⟨c8 q.C.q q.C.n 1 q.C.f q.C.aP.length,true⟩)])++[(q.A.q,⟨q.A.ar,true⟩),(q.A.r,⟨c8 q.A.q q.A.n 2 q.A.f q.A.aP.length,true⟩)]):=
  hO.fP (iD fun p=>by simp only[List.countP_append,List.countP_cons,List.countP_nil];omega)
 clear hO;refine azb dJ hL.aE.a.mQ.len ?_;clear dJ;intro H hO;refine aY (aZ hO (G.length+0) (aS (aS (aC rfl))) (v:=ak q.B.r 0) rfl ?_);have dJ:al H ((((G++[(q.dU,⟨mT q p.w.cA st hs,true⟩)])++[(q.b6,⟨fr (p.w.s.drop p.w.cA) q.L.cV,true⟩)])++[(q.C.q,⟨q.C.ar,true⟩),(q.C.r,⟨c8 q.C.q q.C.n 1 q.C.f q.C.aP.length,true⟩)])++[(q.B.q,⟨q.B.ar,true⟩),(q.B.r,⟨c8 q.B.q q.B.n 1 q.B.f q.B.aP.length,true⟩)]):=
  hO.fP (iD fun p=>by simp only[List.countP_append,List.countP_cons,List.countP_nil];omega)
 clear hO;refine agn dJ hL.aE.b.mQ.len ?_;clear dJ;intro H hO;refine aY (aZ hO (G.length+0) (aS (aS (aC rfl))) (v:=ak q.C.r 0) rfl (agn hO hL.aE.c.mQ.len ?_));clear hO;intro H hO;refine ag H ⟨⟨bc.z7,bc.Ci,bc.Cj,bc.Ck,bc.w5,azf bc.s,bc.m,bc.own,bc.ko,bc.bf,bc.du,bc.jg,bc.kT,bc.l6,fun h=>absurd h fT⟩,(q.dg,⟨gC q.bN q.A.r q.B.r p.l q.a6,true⟩)::q.T,fun h=>absurd h fT,?_⟩;rw[eD]at hO;exact hO.fP (iD fun sO=>by show _=List.countP sO ((S++(F++_))++([(q.c,(⟨q.aE p,true⟩:az)),(q.b6,⟨fr (p.w.s.drop p.w.cA) q.L.cV,true⟩),(q.w,⟨q.W.j0 p.w,true⟩),(q.bN,⟨fX q.cf q.cW p.bf.du,true⟩),(q.cq,nz p.d.fB p.d.mb q.ej p.d.e5.length),(q.ej,nA p.d.e5),(q.dU,⟨mT q p.w.cA st hs,true⟩)]++dQ q.L p.w.m));simp only[List.countP_append,List.countP_cons,List.countP_nil];omega)
end J
namespace J
open Go Go.Ab
variable[cu:b0]
variable{H:au}{S F R:List (Nat×az)}{aa:VH}{v w:Value}{r k m N:Nat}{e hs st a:Int}{q:iO}{p:dY}{dW:Nat}{ks cZ:Bool}
theorem en.mono(h:en H S F q p N){vT:Nat}(ny:N<=vT):en H S F q p vT:=by obtain⟨⟨ad,af,ax,aO,bl,bL,cn,dA,fo,hS,ke,pj,vZ,uT,nN⟩,bc⟩:=h;exact⟨⟨ad,af,ax,aO,bl,bL,cn,dA,fo.mono ny,hS,Nat.le_trans ke ny,pj,vZ,uT,nN⟩,bc⟩
theorem azg{l:List Int}{fB:Int}{k:Nat}(h:∀y∈l,0<=y/\y<=fB)(aR:0<=fB):∀y∈l.set k fB,0<=y/\y<=fB:=by grind
theorem agp(h:tE S q p N):0<=p.d.fB:=by
 have ad:=h.jg;have af:=h.kT;cases aw:p.d.e5 with
 | nil=>simp_all
 | cons a r=>grind[List.mem_cons_self]
theorem Te(aM:dW<3)(h:en H S F q p N)(ad:p.st=1)(ag:∀ab,en ab S F q (p.ks dW ks e cZ).2 N->aa (.bool ks) ab):wCall P 62 [ak q.dU 0,int dW,.bool ks,int e,.bool cZ] H aa:=by
 apply ao4;unfold Y7;refine gb (fun aG ab=>aG=[ak q.dU 0,.bool ks,int e,.bool cZ]/\en ab S F q (if ks then {p with d:=p.d.zZ dW}else p) N) ?_ ?_
 ·cases ks with
  | false=>exact eX rfl (⟨rfl,h⟩)
  | true=>refine fU rfl ?_;obtain⟨bc,R,U,hO⟩:=h;refine aY (aZ hO _ (kJ (k:=6) rfl) (v:=ak q.cq 0) rfl (ayB hO _ _ (kJ (k:=4) rfl) (kJ (k:=5) rfl) ?_));clear hO;intro H hO;rw[Go.Ab.cy]at hO;have aJ:=bc.jg;rw[if_pos (by omega),Int.toNat_natCast]at hO;refine⟨rfl,⟨bc.z7,bc.Ci,bc.Cj,bc.Ck,bc.w5,bc.s,bc.m,bc.own,bc.ko,bc.bf,bc.du,by show(p.d.e5.set dW p.d.fB).length=3;simp_all,azg bc.kT (agp bc),bc.l6,fun h=>⟨(bc.fa h).aE,(bc.fa h).cI,(bc.fa h).wr,(bc.fa h).r5,(bc.fa h).c0⟩⟩,R,U,?_⟩;have e:rU q {p with d:=p.d.zZ dW}=[(q.c,(⟨q.aE p,true⟩:az)),(q.b6,⟨fr p.w.s q.L.cV,true⟩),(q.w,⟨q.W.j0 p.w,true⟩),(q.bN,⟨fX q.cf q.cW p.bf.du,true⟩),(q.cq,nz p.d.fB p.d.mb q.ej (p.d.e5.set dW p.d.fB).length),(q.ej,nA (p.d.e5.set dW p.d.fB)),(q.dU,⟨mT q p.w.cA p.st p.hs,true⟩)]++dQ q.L p.w.m:=rfl;rw[if_pos rfl,e,List.length_set];exact hO
 clear h;rintro aG H ⟨rfl,h⟩
 try simp only[cR,cS]
 have zp:(if ks then {p with d:=p.d.zZ dW}else p:dY).st=1:=by grind
 unfold dY.ks at ag;simp only at ag;refine ai jh (bT (fun he=>?_) (fun he=>?_))
 ·rw[if_pos he]at ag;exact Ma (by decide) h zp ag
 ·rw[if_neg he]at ag;cases cZ with
  | true=>exact fU rfl (Ma (by decide) h zp ag)
  | false=>exact eX rfl (ag H h)
theorem azh(h:en H S F q p N)(ad:p.st=1)(ag:∀ab,en ab S F q p.L4.2 N->aa (.bool p.L4.1) ab):wCall P 60 [ak q.dU 0] H aa:=by
 apply ao2;unfold Y5;have a7:=h;obtain⟨bc,R,U,hO⟩:=h;have aJ:=bc.jg;refine aY (aZ hO _ (kJ (k:=6) rfl) (v:=ak q.cq 0) rfl (ayz hO _ _ (kJ (k:=4) rfl) (kJ (k:=5) rfl) (by omega) (by omega) bc.kT bc.l6 ?_));unfold dY.L4 uR.Hn at ag;by_cases aA:p.d.mb<=p.d.fB-Cd p.d.e5
 ·rw[if_pos aA]at ag⊢;refine ai jh (nK (by decide) (Ma (by decide) a7 ad ?_));intro ab hg;exact ai jh (ag ab hg)
 ·rw[if_neg aA]at ag⊢;exact ai jh (tb (by decide) (ai jh (ag H a7)))
theorem agq(h:en H S F q p N)(ag:∀ab,en ab S F q (p.EL a) N->aa (.tuple [].toArray) ab):wCall P 24 [ak q.dU 0,int a] H aa:=by
 apply aoC;unfold YC;have a7:=h;obtain⟨bc,R,U,hO⟩:=h;refine aY (aZ hO _ (kJ (k:=6) rfl) (v:=int p.st) rfl (ai fz ?_));unfold dY.EL at ag;refine bT (fun ad=>?_) (fun ad=>?_)
 ·rw[if_pos ad]at ag;refine aY (aZ hO _ (kJ (k:=6) rfl) (v:=ak q.cq 0) rfl (ayA hO _ (kJ (k:=4) rfl) (agp bc) bc.l6 ?_));clear hO;intro H hO;rw[Go.Ab.cy]at hO;have ax:=bc.l6;exact ag H ⟨⟨bc.z7,bc.Ci,bc.Cj,bc.Ck,bc.w5,bc.s,bc.m,bc.own,bc.ko,bc.bf,bc.du,bc.jg,fun y ba=>by have:=bc.kT y ba;show 0<=y/\y<=p.d.fB+max 0 (min a (1099511627776-p.d.fB));omega,by show p.d.fB+max 0 (min a (1099511627776-p.d.fB))<=1099511627776;omega,fun h=>⟨(bc.fa h).aE,(bc.fa h).cI,(bc.fa h).wr,(bc.fa h).r5,(bc.fa h).c0⟩⟩,R,U,hO⟩
 ·rw[if_neg ad]at ag;exact ag H a7
theorem azi(h:en H S F q p N)(ag:∀ab,en ab S F q p.Hy.2 N->aa (.bool p.Hy.1) ab):wCall P 29 [ak q.dU 0] H aa:=by
 apply YG;unfold Qh;have a7:=h;obtain⟨bc,R,U,hO⟩:=h;refine aY (aZ hO _ (kJ (k:=6) rfl) (v:=int p.st) rfl (ai jh ?_));unfold dY.Hy at ag;refine bT (fun ad=>?_) (fun ad=>?_)
 ·rw[if_pos ad]at ag;exact ag H a7
 ·rw[if_neg ad]at ag;exact Ma (by decide) a7 (by omega) ag
end J
namespace J
open Go Go.Ab
variable[cu:b0]
variable{H:au}{Γ S F X R:List (Nat×az)}{aa:VH}{v w:Value}{ar:List Value}{r n f i m N:Nat}{hs st a:Int}{q:iO}{p:dY}{ks:Bool}
theorem azj{dg bN bQ cE:Nat}{l:dV}{a6:Value}(hO:al H Γ)(aq:Γ[i]?=some (dg,⟨gC bN bQ cE l a6,true⟩))(ag:aa (int l.bu) H):wCall P 63 [ak dg 0] H aa:=by apply ao5;unfold Y8;exact aY (aZ hO i aq (v:=int l.bu) rfl ag)
theorem azk{n:Nat}{l:dV}{bz:List (Int×List Int)}{cU:List jl}{bf:hC}:(iC n l bz cU bf).2.2.2.2.du<=bf.du+1:=by
 unfold iC;split
 ·simp_all
 ·split
  ·simp_all
  ·split
   ·simp_all
   ·have h:(bf.mS l.fs l.jn.1 l.jn.2).2.du<=bf.du+1:=by
     unfold hC.mS
     grind
    grind
def dY.z8(p:dY):dY:=
 {p with l:=(iC p.c.bN p.l p.c.er p.c.cU p.bf).2.1,c:={p.c with er:=(iC p.c.bN p.l p.c.er p.c.cU p.bf).2.2.1,cU:=(iC p.c.bN p.l p.c.er p.c.cU p.bf).2.2.2.1},bf:=(iC p.c.bN p.l p.c.er p.c.cU p.bf).2.2.2.2}
theorem Tf(p:dY):p.Hx=p.z8.ks 0 (iC p.c.bN p.l p.c.er p.c.cU p.bf).1 p.z8.l.bu false:=by rfl
theorem azl(ny:N<=1000000)(h:en H S F q p N)(ad:p.st=1)(ag:∀ab gL X,q.fg gL->gL.dg=q.dg->en ab (S++X) F gL p.z8 (N+1)->aa (.bool (iC p.c.bN p.l p.c.er p.c.cU p.bf).1) ab):wCall P 61 [ak q.dg 0] H aa:=by
 obtain⟨bc,R,U,hO⟩:=h;obtain rfl:=U ad;have hL:=bc.fa ad;have dJ:al H ((S++(F++([(q.C.q,(⟨q.C.ar,true⟩:az)),(q.C.r,⟨c8 q.C.q q.C.n 1 q.C.f q.C.aP.length,true⟩),(q.c,⟨q.aE p,true⟩),(q.b6,⟨fr p.w.s q.L.cV,true⟩),(q.w,⟨q.W.j0 p.w,true⟩),(q.cq,nz p.d.fB p.d.mb q.ej p.d.e5.length),(q.ej,nA p.d.e5),(q.dU,⟨mT q p.w.cA p.st p.hs,true⟩)]++(q.T++dQ q.L p.w.m))))++q9 q.A q.B q.dg q.bN q.cf q.a6 q.cW p.l p.bf.du):=
  hO.fP (iD fun p=>by simp only[rU,yv,q9,List.countP_append,List.countP_cons,List.countP_nil];omega)
 have KC:=bc.du;refine ay6 hL.cI (by omega) dJ ?_;rw[hL.r5];clear hO dJ;intro ab X ho dn w4 jS HB HC p0 hO;have jb:=hL.aE;have xo:dn.n=p.c.bN:=HC.n.trans jb.gS;refine ag ab {q with A:=ho,B:=dn,a6:=w4,cW:=jS} X ⟨rfl,rfl,rfl,rfl,.gm⟩ rfl ⟨⟨bc.z7,bc.Ci.bo,bc.Cj,bc.Ck,bc.w5,bc.s,bc.m,bc.own,bc.ko.mono (Nat.le_succ N),p0.bf,Nat.le_trans azk (by omega),bc.jg,bc.kT,bc.l6,fun _=>⟨⟨jb.a6.bo,jb.w1,jb.q4,jb.nn,p0.a,p0.b,jb.c.bo,xo,jb.DO,jb.ok,jb.b9.bo,jb.bZ.bo⟩,p0,hL.wr.bo,HB.n.trans hL.r5,hL.c0⟩⟩,_,fun _=>rfl,?_⟩;obtain⟨k3,hc,r5,Tg,oQ,Th⟩:=ho;obtain⟨k4,fc,gS,Ti,pr,Tj⟩:=dn;obtain⟨dm,da,a3⟩:=HB;obtain⟨fj,fl,iJ⟩:=HC;simp only at dm da a3 fj fl iJ;subst dm da a3 fj fl iJ;refine hO.fP (iD fun sO=>?_);show _=List.countP sO (((S++X)++(F++([(q.A.q,(⟨oQ,true⟩:az)),(q.A.r,⟨c8 q.A.q q.A.n 2 Tg Th.length,true⟩),(q.B.q,⟨pr,true⟩),(q.B.r,⟨c8 q.B.q q.B.n 1 Ti Tj.length,true⟩),(q.C.q,⟨q.C.ar,true⟩),(q.C.r,⟨c8 q.C.q q.C.n 1 q.C.f q.C.aP.length,true⟩),(q.dg,⟨gC q.bN q.A.r q.B.r p.z8.l w4,true⟩)]++q.T)))++([(q.c,(⟨q.aE p,true⟩:az)),(q.b6,⟨fr p.w.s q.L.cV,true⟩),(q.w,⟨q.W.j0 p.w,true⟩),(q.bN,⟨fX q.cf jS p.z8.bf.du,true⟩),(q.cq,nz p.d.fB p.d.mb q.ej p.d.e5.length),(q.ej,nA p.d.e5),(q.dU,⟨mT q p.w.cA p.st p.hs,true⟩)]++dQ q.L p.w.m));unfold dY.z8;simp only[q9,List.countP_append,List.countP_cons,List.countP_nil];omega
end J
namespace J
open Go Go.Ab
variable[cu:b0]
variable{H:au}{Γ S F X R:List (Nat×az)}{aa:VH}{v w:Value}{ar:List Value}{r n f i k m N:Nat}{hs st a:Int}{q:iO}{p:dY}{dW:Int}{ks cZ:Bool}
def dY.HD(p:dY):dY:={p with c:=p.c.step.2}
def dY.rw(p:dY):Bool×bU:=({p.w with q:=p.c.e7}:bU).step
def dY.EP(p:dY):dY:={p with w:=p.rw.2,c:={p.c with e7:=p.rw.2.q}}
theorem agr(p:dY):p.hU=p.HD.ks 1 p.c.step.1 p.HD.c.bu false:=rfl
theorem ags(p:dY):p.z1=p.EP.ks 2 p.rw.1 p.EP.w.bu (decide (p.EP.w.dx=4)):=rfl
theorem azm{aw:Option (List Int×Nat)}{aW:df}{cF:Value}{T:List (Nat×az)}(h:sK S aW aw cF T):ae3 cF=aw.isSome:=by cases h<;>rfl
theorem azn(h:en H S F q p N)(ad:p.st=1)(ag:∀ab gL X,q.fg gL->gL.c=q.c->en ab (S++X) F gL p.HD N->aa (.bool p.c.step.1) ab):wCall P 64 [ak q.c 0] H aa:=by
 obtain⟨bc,R,U,hO⟩:=h;obtain rfl:=U ad;have hL:=bc.fa ad;have aA:zV S (F++([(q.dg,(⟨gC q.bN q.A.r q.B.r p.l q.a6,true⟩:az)),(q.b6,⟨fr p.w.s q.L.cV,true⟩),(q.w,⟨q.W.j0 p.w,true⟩),(q.bN,⟨fX q.cf q.cW p.bf.du,true⟩),(q.cq,nz p.d.fB p.d.mb q.ej p.d.e5.length),(q.ej,nA p.d.e5),(q.dU,⟨mT q p.w.cA p.st p.hs,true⟩)]++dQ q.L p.w.m)) p.c q.A q.B q.C q.c q.o7 H:=
  ⟨q.b9,q.cF,q.T,hL.aE,hO.fP (iD fun sO=>by simp only[rU,yv,hj,iO.aE,List.countP_append,List.countP_cons,List.countP_nil];omega)⟩
 refine awR aA ?_;clear hO aA;intro ab X ho dn hp HB HC azo aA;obtain⟨agt,Si,dw,jb,hO⟩:=aA;have w6:=hL.wr;refine ag ab {q with A:=ho,B:=dn,C:=hp,b9:=agt,cF:=Si,T:=dw} X ⟨rfl,rfl,rfl,rfl,.gm⟩ rfl ⟨⟨jb.ok,jb.b9,jb.bZ.awF,azm jb.bZ,bc.w5,bc.s,bc.m,bc.own,bc.ko,bc.bf.bo,bc.du,bc.jg,bc.kT,bc.l6,fun _=>⟨jb,⟨jb.a,jb.b,hL.cI.ew.bo,hL.cI.bf.bo,hL.cI.ok⟩,⟨jb.c,w6.aW,w6.b9.bo,w6.fM.bo,w6.uO,w6.s,w6.m,w6.own,w6.ez,w6.wr⟩,?_,hL.c0⟩⟩,_,fun _=>rfl,?_⟩
 ·show ho.n=p.c.step.2.bN;rw[HB.n,hL.r5,<- hL.aE.gS,<- HC.n];exact jb.gS
 obtain⟨k3,hc,r5,Tg,oQ,Th⟩:=ho;obtain⟨k4,fc,gS,Ti,pr,Tj⟩:=dn;obtain⟨k5,c1,DO,hN,om,HE⟩:=hp;obtain⟨dm,da,a3⟩:=HB;obtain⟨fj,fl,iJ⟩:=HC;obtain⟨db,cp,ga⟩:=azo;simp only at dm da a3 fj fl iJ db cp ga;subst dm da a3 fj fl iJ db cp ga;refine hO.fP (iD fun sO=>?_);show _=List.countP sO (((S++X)++(F++([(q.A.q,(⟨oQ,true⟩:az)),(q.A.r,⟨c8 q.A.q q.A.n 2 Tg Th.length,true⟩),(q.B.q,⟨pr,true⟩),(q.B.r,⟨c8 q.B.q q.B.n 1 Ti Tj.length,true⟩),(q.C.q,⟨om,true⟩),(q.C.r,⟨c8 q.C.q q.C.n 1 hN HE.length,true⟩),(q.dg,⟨gC q.bN q.A.r q.B.r p.l q.a6,true⟩)]++dw)))++([(q.c,(⟨fe q.o7 p.c.step.2.t q.A.r q.B.r q.C.r p.c.step.2.aW agt Si p.c.step.2.cZ p.c.step.2.bu,true⟩:az)),(q.b6,⟨fr p.w.s q.L.cV,true⟩),(q.w,⟨q.W.j0 p.w,true⟩),(q.bN,⟨fX q.cf q.cW p.bf.du,true⟩),(q.cq,nz p.d.fB p.d.mb q.ej p.d.e5.length),(q.ej,nA p.d.e5),(q.dU,⟨mT q p.w.cA p.st p.hs,true⟩)]++dQ q.L p.w.m));simp only[hj,List.countP_append,List.countP_cons,List.countP_nil];omega
theorem azp{w:bU}{bf:jl}:(w.kr bf).s=w.s/\(w.kr bf).cA=w.cA/\(w.kr bf).dh=w.dh/\(w.kr bf).m=w.m/\(w.dx≠4->(w.kr bf).dx≠4):=by
 unfold bU.kr;by_cases aR:w.dx=0
 ·rw[if_pos aR]
  grind[bU.ym]
 ·rw[if_neg aR];cases bf with
  | nk cb m=>simp_all
  | il a=>simp_all
  | body a c=>grind[bU.body]
  | eC=>grind
theorem azq{w:bU}:w.step.2.s=w.s/\w.step.2.cA=w.cA/\w.step.2.dh=w.dh:=by
 unfold bU.step;split
 ·simp_all
 split
 ·show w.mu.s=_/\w.mu.cA=_/\w.mu.dh=_;unfold bU.mu;split<;>exact⟨rfl,rfl,rfl⟩
 split
 ·show w.mz.s=_/\w.mz.cA=_/\w.mz.dh=_;unfold bU.mz;split
  ·exact⟨rfl,rfl,rfl⟩
  split<;>exact⟨rfl,rfl,rfl⟩
 split
 ·rename_i x aj _;show(w.fill x aj).s=_/\(w.fill x aj).cA=_/\(w.fill x aj).dh=_;unfold bU.fill;split<;>exact⟨rfl,rfl,rfl⟩
 grind[azp]
theorem azr(ny:N<=1000000)(h:en H S F q p N)(ad:p.st=1)(ag:∀ab gL X,q.fg gL->gL.w=q.w->en ab (S++X) F gL p.EP (N+1)->aa (.bool p.rw.1) ab):wCall P 66 [ak q.w 0] H aa:=by
 obtain⟨bc,R,U,hO⟩:=h;obtain rfl:=U ad;have hL:=bc.fa ad;have dJ:jR H S (F++([(q.A.q,(⟨q.A.ar,true⟩:az)),(q.A.r,⟨c8 q.A.q q.A.n 2 q.A.f q.A.aP.length,true⟩),(q.B.q,⟨q.B.ar,true⟩),(q.B.r,⟨c8 q.B.q q.B.n 1 q.B.f q.B.aP.length,true⟩),(q.dg,⟨gC q.bN q.A.r q.B.r p.l q.a6,true⟩),(q.c,⟨q.aE p,true⟩),(q.bN,⟨fX q.cf q.cW p.bf.du,true⟩),(q.cq,nz p.d.fB p.d.mb q.ej p.d.e5.length),(q.ej,nA p.d.e5),(q.dU,⟨mT q p.w.cA p.st p.hs,true⟩)]++q.T)) {p.w with q:=p.c.e7} q.W:=
  hO.fP (iD fun sO=>by show _=List.countP sO ((((S++_)++[(q.C.q,(⟨q.C.ar,true⟩:az)),(q.C.r,⟨c8 q.C.q q.C.n 1 q.C.f q.C.aP.length,true⟩),(q.b6,⟨fr p.w.s q.L.cV,true⟩),(q.w,⟨q.W.j0 p.w,true⟩)])++dQ q.L p.w.m));simp only[rU,yv,List.countP_append,List.countP_cons,List.countP_nil];omega)
 refine ayv hL.wr hL.c0 bc.ko ny dJ ?_;clear hO dJ;intro ab dn X ck aM eU rV hO;obtain⟨⟨k5,c1,DO,hN,om,HE⟩,EN,EO,ath,jY,cv⟩:=dn;obtain⟨fj,fl,iJ,ng,nj,qm⟩:=ck;simp only[iO.W]at fj fl iJ ng nj qm;subst fj fl iJ ng nj;have jb:=hL.aE;have x4:p.rw.2.cA=p.w.cA:=azq.2.1;refine ag ab {q with C:=⟨q.C.q,q.C.r,q.C.n,hN,om,HE⟩,EN:=EN,EO:=EO,L:=cv} X ⟨rfl,rfl,rfl,rfl,qm⟩ rfl ⟨⟨bc.z7,bc.Ci.bo,bc.Cj,bc.Ck,aM.aW,aM.s,aM.m,aM.own,rV,bc.bf.bo,by have:=bc.du;show p.bf.du<=N+1;omega,bc.jg,bc.kT,bc.l6,fun _=>⟨⟨jb.a6.bo,jb.w1,jb.q4,jb.nn,jb.a.bo,jb.b.bo,aM.q,jb.gS,jb.DO,jb.ok,jb.b9.bo,jb.bZ.bo⟩,⟨jb.a.bo,jb.b.bo,hL.cI.ew.bo,hL.cI.bf.bo,hL.cI.ok⟩,aM,hL.r5,eU⟩⟩,_,fun _=>rfl,?_⟩;refine hO.fP (iD fun sO=>?_);show List.countP sO ((((S++X)++_)++[(q.C.q,(⟨om,true⟩:az)),(q.C.r,⟨c8 q.C.q q.C.n 1 hN HE.length,true⟩),(q.b6,⟨fr p.rw.2.s cv.cV,true⟩),(q.w,⟨iq q.b6 p.rw.2.cA p.rw.2.dh q.C.r p.rw.2.aW EN p.rw.2.ez EO p.rw.2.wr p.rw.2.dx p.rw.2.bu,true⟩)])++dQ cv p.rw.2.m)=List.countP sO (((S++X)++(F++([(q.A.q,(⟨q.A.ar,true⟩:az)),(q.A.r,⟨c8 q.A.q q.A.n 2 q.A.f q.A.aP.length,true⟩),(q.B.q,⟨q.B.ar,true⟩),(q.B.r,⟨c8 q.B.q q.B.n 1 q.B.f q.B.aP.length,true⟩),(q.C.q,⟨om,true⟩),(q.C.r,⟨c8 q.C.q q.C.n 1 hN HE.length,true⟩),(q.dg,⟨gC q.bN q.A.r q.B.r p.l q.a6,true⟩)]++q.T)))++([(q.c,(⟨q.aE p,true⟩:az)),(q.b6,⟨fr p.rw.2.s cv.cV,true⟩),(q.w,⟨iq q.b6 p.rw.2.cA p.rw.2.dh q.C.r p.rw.2.aW EN p.rw.2.ez EO p.rw.2.wr p.rw.2.dx p.rw.2.bu,true⟩),(q.bN,⟨fX q.cf q.cW p.bf.du,true⟩),(q.cq,nz p.d.fB p.d.mb q.ej p.d.e5.length),(q.ej,nA p.d.e5),(q.dU,⟨mT q p.rw.2.cA p.st p.hs,true⟩)]++dQ cv p.rw.2.m))
 rw[x4];simp only[List.countP_append,List.countP_cons,List.countP_nil];omega
theorem azs{aE:Nat}{a6:Value}{t:pT}{bQ cE ff:Nat}{aW:df}{b9 cF:Value}{bu:Int}{aa:VH}(aJ:aW.cq.length=32)(hO:al H Γ)(aq:Γ[i]?=some (aE,⟨fe a6 t bQ cE ff aW b9 cF cZ bu,true⟩))(ag:aa (int bu) H):wCall P 65 [ak aE 0] H aa:=by apply ao7;unfold Za;exact aY (aZ hO i aq (v:=int bu) (aeY aJ) ag)
theorem azt{qw l cA ez wr dx ni:Nat}{dh bu:Int}{aW:df}{b9 hq:Value}{aa:VH}(aJ:aW.cq.length=32)(hO:al H Γ)(aq:Γ[i]?=some (qw,⟨iq l cA dh ni aW b9 ez hq wr dx bu,true⟩))(ag:aa (int bu) H):wCall P 67 [ak qw 0] H aa:=by apply ao9;unfold Zc;exact aY (aZ hO i aq (v:=int bu) (LQ aJ) ag)
theorem azu{qw l cA ez wr dx ni:Nat}{dh bu:Int}{aW:df}{b9 hq:Value}{aa:VH}(aJ:aW.cq.length=32)(hO:al H Γ)(aq:Γ[i]?=some (qw,⟨iq l cA dh ni aW b9 ez hq wr dx bu,true⟩))(ag:aa (.bool (decide (dx=4))) H):wCall P 68 [ak qw 0] H aa:=by apply apa;unfold Zd;refine aY (aZ hO i aq (v:=int dx) (Hr aJ) (ai fz ?_));rw[decide_eq_decide.2 (show((dx:Int)=4)↔dx=4 by omega)];exact ag
theorem azv(q:iO)(pk:Nat)(st hs:Int):(mT q pk st hs).all fH=true:=rfl
theorem Mb(ny:N<=1000000)(h:en H S F q p N)(ag:∀ab gL X,q.fg gL->en ab (S++X) F gL (p.step dW).2 (N+1)->aa (.bool (p.step dW).1) ab):wCall P 14 [ak q.dU 0,int dW] H aa:=by
 apply Yu;unfold Qe;have a7:=h;obtain⟨bc,R,U,hO⟩:=h;have gO:∀ab,en ab S F q (p.step dW).2 (N+1)->aa (.bool (p.step dW).1) ab:=fun ab h=>ag ab q [] .gm (by rw[List.append_nil];exact h)
 refine aY (aZ hO _ (kJ (k:=6) rfl) (v:=int p.st) rfl (ai jh ?_));unfold dY.step at ag gO;refine bT (fun ad=>?_) (fun ad=>?_)
 ·rw[if_pos ad]at gO;exact gO H (a7.mono (Nat.le_succ N))
 rw[if_neg ad]at ag gO;have ad:p.st=1:=by omega
 refine ai fz (bT (fun af=>?_) (fun af=>?_))
 ·rw[if_pos af]at gO;exact azh a7 ad fun ab hg=>gO ab (hg.mono (Nat.le_succ N))
 rw[if_neg af]at ag gO;refine ai fz (bT (fun af=>?_) (fun af=>?_))
 ·rw[if_pos af,Tf]at ag;subst af;refine aY (aZ hO _ (kJ (k:=6) rfl) (v:=ak q.dg 0) rfl (azl ny a7 ad ?_));clear hO bc a7 gO;intro ab gL X aw aD hg;have wM:=hg;obtain⟨bc,R,U,hO⟩:=hg;obtain rfl:=U ad;rw[<- aw.dU];exact aY (aZ hO _ (kJ (k:=6) rfl) (v:=ak gL.dg 0) rfl (azj hO (i:=((S++X).length+(F.length+6))) (aS (aC (aC rfl))) (Te (dW:=0) (by decide) wM ad fun cD w7=>ag cD gL X aw w7)))
 rw[if_neg af]at ag gO;refine ai fz (bT (fun af=>?_) (fun af=>?_))
 ·rw[if_pos af,agr]at ag;subst af;refine aY (aZ hO _ (kJ (k:=6) rfl) (v:=ak q.c 0) rfl (azn a7 ad ?_));clear hO bc a7 gO;intro ab gL X aw aD hg;have wM:=hg;obtain⟨bc,R,U,hO⟩:=hg;rw[<- aw.dU];exact aY (aZ hO _ (kJ (k:=6) rfl) (v:=ak gL.c 0) rfl (azs bc.z7.dR hO (kJ (k:=0) rfl) (Te (dW:=1) (by decide) wM ad fun cD w7=>ag cD gL X aw (w7.mono (Nat.le_succ N)))))
 rw[if_neg af]at ag gO;refine ai fz (bT (fun af=>?_) (fun af=>?_))
 ·rw[if_pos af,ags]at ag;subst af;refine aY (aZ hO _ (kJ (k:=6) rfl) (v:=ak q.w 0) rfl (azr ny a7 ad ?_));clear hO bc a7 gO;intro ab gL X aw aD hg;have wM:=hg;obtain⟨bc,R,U,hO⟩:=hg;rw[<- aw.dU];refine aY (aZ hO _ (kJ (k:=6) rfl) (v:=ak gL.w 0) rfl (azt bc.w5.dR hO (kJ (k:=2) rfl) (aY (aZ hO _ (kJ (k:=6) rfl) (v:=ak gL.w 0) rfl (⟨ha hO _ (kJ (k:=6) rfl) hO _ (kJ (k:=6) rfl) (azv _ _ _ _),?_⟩)))));exact azu bc.w5.dR hO (kJ (k:=2) rfl) (Te (dW:=2) (by decide) wM ad fun cD w7=>ag cD gL X aw w7)
 ·rw[if_neg af]at gO;exact gO H (a7.mono (Nat.le_succ N))
end J
namespace J
open Go Go.Ab
section
variable[cu:b0]
variable{H:au}{Γ S X R:List (Nat×az)}{v w:Value}{ar dX:List Value}{aP:List (List Value)}{r n f i j m:Nat}{gT:q7}
theorem Al.azw{α:Type}{R:α->List Value->Prop}{size:Nat}{l:List α}(h:Al R l aP)(bM:∀a dX,R a dX->dX.length=size):∀i (aq:i<l.length),∃dX,R l[i] dX/\(aP.flatten.drop (i*size)).take size=dX:=by
 induction h with
 | nil=>simp_all
 | @cons a b l m ad af bd=>
  intro i aq;cases i with
  | zero=>grind
  | succ i=>
   obtain⟨dX,bX,b7⟩:=bd i (by simp_all)
   grind[Nat.succ_mul,List.drop_drop,List.drop_left]
theorem rD.azx{size:Nat}(h:rD size Γ v n ar):Go.Ab.cG v H=some (int n,H):=by rcases h with⟨rfl,rfl,_⟩|⟨p,c,j,w,rfl,_⟩<;>rfl
def HF(S:List (Nat×az))(o:List UInt8×List Int)(dX:List Value):Prop:=∃mU,dX=[bZ o.1,mU]/\cl S mU o.2/\ct o.2
theorem HF.bo{o:List UInt8×List Int}(h:HF S o dX):HF (S++X) o dX:=by obtain⟨mU,ad,af,ax⟩:=h;exact⟨mU,ad,af.bo,ax⟩
def w8(S:List (Nat×az))(v:Value)(gT:q7):Prop:=∃aP,rD 2 S v gT.length aP.flatten/\Al (HF S) gT aP
theorem w8.bo(h:w8 S v gT):w8 (S++X) v gT:=by obtain⟨aP,ad,af⟩:=h;exact⟨aP,ad.bo,af.LO fun _ _=>HF.bo⟩
theorem w8.cG(h:w8 S v gT):Go.Ab.cG v H=some (int gT.length,H):=by obtain⟨aP,ad,_⟩:=h;exact ad.azx
theorem w8.get(h:w8 S v gT)(aq:i<gT.length):∃(p c j:Nat) (w:Bool) (ar:List Value) (mU:Value),v=aF p 0 gT.length c/\S[j]?=some (p,(⟨ar,w⟩:az))/\(ar.drop (0+i*2)).take 2=[bZ gT[i].1,mU]/\cl S mU gT[i].2/\ct gT[i].2:=by
 obtain⟨aP,ad,af⟩:=h;obtain⟨dX,⟨mU,rfl,b7,g3⟩,kO⟩:=af.azw (size:=2) (fun a dX h=>by obtain⟨mU,rfl,_⟩:=h;rfl) i aq;rcases ad with⟨_,aR,_⟩|⟨p,c,j,w,rfl,bp,aD⟩
 ·omega
 grind
theorem azy:dq P 59=[bZ [],bB]:=by rfl
theorem azz(cf:Nat)(a:Option Addr)(n c:Nat):(di P 176).f [(0,vD cf),(1,.slice a n c)]=some (agg [vD cf,.slice a n c,int 0]):=by rfl
theorem Tk(cf:Nat)(r:hk)(L:b0):eH (iA cf r L).l cf=some r:=by
 show eH ((cf,r)::L.l) cf=_
 simp_all[qd]
theorem azA{aj:List Int}(h:cl S v aj):eP v=true:=by obtain⟨a,n,c,rfl⟩:=h.lC;rfl
end
variable{H:au}{b8 S F X:List (Nat×az)}{aa:VH}{v cW:Value}{ar:List Value}{n f j k:Nat}{bR:List pq}{gT:q7}
theorem azB{eO:b0}{cf bN y:Nat}{T:List Value}{off:q7}{N:LN}{bY:LX}{c9:LN}{S2:List (Nat×az)}(vX:j3 S2 cW bR)(ba:y<gT.length)(aX:gT.length<=1000)(aD:∀o∈gT,o.1.length<=1000/\o.2.length<=10000)(bJ:@w8 S v gT)(bk:@tD (S++X) T off)
  (hO:@al (iA cf (jU T) eO) H (((S++X)++F)++[(bN,⟨fX cf cW 0,true⟩)]))
  (ag:∀ab dw Mc,@tD ((S++X)++Mc) dw (Ce off (gT[y]'ba))->@al (iA cf (jU dw) eO) ab ((((S++X)++Mc)++F)++[(bN,⟨fX cf cW 0,true⟩)])->N [.pointer none,ak bN 0,v,int gT.length,int ((y+1:Nat):Int)] ab):
  KN [.pointer none,ak bN 0,v,int gT.length,int y] H N bY c9:=by
 letI:b0:=iA cf (jU T) eO
 unfold KN
 try simp only[cR,cS]
 obtain⟨bX,b7⟩:=aD _ (List.getElem_mem ba);obtain⟨p,c,j,Hu,ar,mU,rfl,bp,C7,Aa,vf⟩:=bJ.get ba;refine ai gj (nK (by omega) (ai (ky (by omega) (by omega)) ?_));rw[Int.toNat_natCast];refine jM (ar:=[bZ gT[y].1,mU]) hO j (aS (aS (aS bp))) C7 rfl (by omega) ?_;rw[azy];refine dT hO ?_;clear hO;intro hI H hO;refine gl hO (_+0) (aC rfl) rfl rfl (by rw[List.all_cons,List.all_cons,azA Aa];rfl) ?_;clear hO;intro H hO
 replace hO:=hO.cy
 replace hO:al H ((((S++X)++F)++[(bN,⟨fX cf cW 0,true⟩)])++[(hI,⟨[bZ gT[y].1,mU],true⟩)]):=hO
 have cn:∀ {b8},(((((S++X)++F)++[(bN,(⟨fX cf cW 0,true⟩:az))])++[(hI,(⟨[bZ gT[y].1,mU],true⟩:az))])++b8)[(((S++X)++F)++[(bN,(⟨fX cf cW 0,true⟩:az))]).length+0]?=some (hI,⟨[bZ gT[y].1,mU],true⟩):=aS (aC rfl);have Tl:((((S++X)++F)++[(bN,(⟨fX cf cW 0,true⟩:az))])++[(hI,(⟨[bZ gT[y].1,mU],true⟩:az))])[(((S++X)++F)++[(bN,(⟨fX cf cW 0,true⟩:az))]).length+0]?=some (hI,⟨[bZ gT[y].1,mU],true⟩):=aC rfl;have Dq:∀ {b8},((((S++X)++F)++[(bN,(⟨fX cf cW 0,true⟩:az))])++b8)[((S++X)++F).length+0]?=some (bN,⟨fX cf cW 0,true⟩):=aS (aC rfl);refine ai ed (aZ hO _ Tl (v:=bZ gT[y].1) rfl (LB (by omega) (aY (aZ hO _ Dq (v:=vD cf) rfl ?_))));have Tm:(ay P .add 3 true).f (int y) (int 1)=some (int ((y+1:Nat):Int)):=by grind[mn]
 have uF:Ce off gT[y]=off->al H ((((S++X)++F)++[(bN,⟨fX cf cW 0,true⟩)])++[(hI,⟨[bZ gT[y].1,mU],true⟩)])->N [.pointer none,ak bN 0,aF p 0 gT.length c,int gT.length,int ((y+1:Nat):Int)] H:=by intro e hO;refine ag H T [] (by rw[e,List.append_nil];exact bk) ?_;rw[List.append_nil];exact hO.left
 rcases bk.SX (mx gT[y].1)with⟨bn,bF⟩|⟨all,av,bn,bF,_⟩
 ·refine Ke hO (Tk _ _ _) HA L7 bF (ai km (ai kn (gb (fun aG ab=>aG=[.pointer none,ak bN 0,ak hI 0,bZ (mx gT[y].1),aF p 0 gT.length c,int gT.length,int y,.bool (decide (sG gT[y].1=0))]/\ab=H) ?_ ?_)))
  ·exact ai jt (fU rfl (ai ed (aZ hO _ Tl (v:=bZ gT[y].1) rfl (adS (by omega) (ai fz (ai mI (⟨rfl,rfl⟩)))))))
  rintro aG ab ⟨rfl,rfl⟩
  try simp only[cR,cS]
  refine bT (fun h=>?_) (fun h=>?_)
  ·refine aY (aZ hO _ Dq (v:=vD cf) rfl (ai ed (aZ hO _ Tl (v:=mU) rfl (KO hO (Aa.bo.bo.bo.bo) (by omega) ?_))));intro cD ev oh dd jZ;refine⟨ha hO _ Dq dd _ (aS Dq) (af8 vX),?_⟩;have kC:=EM dd;clear hO dd uF;refine al2 (L:=eO) kC HA bF ?_;intro iM y1;refine ai Tm (ag iM _ (b2 ev oh) ?_ y1);unfold Ce;rw[if_pos ⟨bn,h⟩];exact(bk.bo).lp jZ.lR.jv vf (by omega)
  ·exact ai Tm (uF (by simp_all[Ce]) hO)
 ·refine Ke hO (Tk _ _ _) HA L7 bF (ai km (ai kn (gb (fun aG ab=>aG=[.pointer none,ak bN 0,ak hI 0,bZ (mx gT[y].1),aF p 0 gT.length c,int gT.length,int y,.bool false]/\ab=H) ?_ ?_)))
  ·exact ai jt (eX rfl (ai qi (⟨rfl,rfl⟩)))
  rintro aG ab ⟨rfl,rfl⟩
  try simp only[cR,cS]
  exact eX rfl (ai Tm (uF (by simp_all[Ce]) hO))
theorem azC[cu:b0]{N:List (Nat×az)}(h:al H (((S++F)++X)++N)):al H (((S++X)++F)++N):=h.fP (iD fun p=>by grind)
theorem Tn{α:Type}{l:List α}{y:Nat}(h:y<l.length):l.take (y+1)=l.take y++[l[y]]:=by simp_all
theorem azD{eO:b0}{To agu:Value}(aD:∀o∈gT,o.1.length<=1000/\o.2.length<=10000)(aX:gT.length<=1000)(bJ:@w8 S To gT)(hf:@j3 S agu bR)(nH:bR.length<=100000)(Bs:∀f∈bR,f.v<256)
  (hO:@al eO H (S++F)) (ag:∀(cv:b0) ab cf bN cW X,(∀x∈eO.l,x.1<cf)->(∃T,cv=iA cf (jU T) eO)->@pZ cv (S++X) cf cW ⟨Hw gT,bR,0⟩->@al cv ab (((S++X)++F)++[(bN,⟨fX cf cW 0,true⟩)])->aa (ak bN 0) ab):wCall P 58 [To,agu] H aa:=by
 apply ao0;unfold Y3;refine al1 (L:=eO) hO ?_;clear hO;intro cf H Fi hO
 letI:b0:=iA cf (jU []) eO
 refine ayV hO hf nH ?_;clear hO;intro H cW X hO vo;obtain⟨a,n,c,rfl⟩:=vo.lC;refine ai (azz _ _ _ _) (dT hO ?_);clear hO;intro bN H hO;refine cH bJ.cG ?_
 replace hO:@al (iA cf (jU []) eO) H (((S++X)++F)++[(bN,⟨fX cf (.slice a n c) 0,true⟩)]):=azC hO
 refine aoZ (fun k aG ab=>∃(y:Nat) (T:List Value) (uq:List (Nat×az)),y<=gT.length/\k=gT.length-y/\aG=[.pointer none,ak bN 0,To,int gT.length,int y]/\tD (S++uq) T ((gT.take y).foldl Ce [])/\j3 (S++uq) (.slice a n c) bR/\@al (iA cf (jU T) eO) ab (((S++uq)++F)++[(bN,⟨fX cf (.slice a n c) 0,true⟩)])) _ _ ?_ gT.length _ _ ⟨0,[],X,Nat.zero_le _,rfl,rfl,trivial,vo,hO⟩;clear hO;rintro k aG H ⟨y,T,uq,ba,rfl,rfl,bk,vo,hO⟩;by_cases h:y<gT.length
 ·refine azB vo h aX aD bJ bk hO ?_;intro ab dw Mc azE iR;refine⟨_,by omega,y+1,dw,uq++Mc,h,rfl,rfl,?_,?_,?_⟩
  ·rw[Tn h,List.foldl_append,<- List.append_assoc];exact azE
  ·rw[<- List.append_assoc];exact vo.bo
  ·rw[<- List.append_assoc];exact iR
 ·have e:y=gT.length:=by omega
  subst e;unfold KN
  try simp only[cR,cS]
  refine ai gj (tb (by omega) ?_);show cond (Nat.beq 0 0) _ _;rw[List.take_length]at bk;exact ag (iA cf (jU T) eO) H cf bN _ uq Fi ⟨T,rfl⟩ (@pZ.mk (iA cf (jU T) eO) _ _ _ _ ⟨T,Tk _ _ _,bk⟩ vo Bs) hO
end J
