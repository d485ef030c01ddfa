/- texts of the pv, gd behind the oq -/
import Derived.Test.YtifflnhooaophaaGreatDoorUN
set_option linter.unusedVariables false
set_option linter.unusedSimpArgs false
set_option linter.unusedSectionVars false
set_option maxHeartbeats 16000000
set_option maxRecDepth 100000
namespace J
open Go Go.Ab
namespace V
variable{A B:Nat}{d:bO}{m lM:bt}{x s:List Int}{n y e:Nat}{w aL:bU}{aF b:Int}{f g:Nat->List Int}
def off(A:Nat)(b:Int):Nat:=if b=0 then 1 else 1+A
structure h8 (m:bt) (A B:Nat):Prop where
 cF:∃r,m.jF=(0,1)::(1,A)::(1+A,B)::r
 B9:1+A+B<=m.d.cells.length
theorem yp(h:h8 m A B)(an:mR b):m.hF (1+b)/\m.rJ (1+b)=(off A b,kI A B b):=by
 obtain⟨r,e⟩:=h.cF;unfold bt.hF bt.rJ;rw[e];rcases an with rfl|rfl
 ·exact⟨⟨by omega,by grind⟩,rfl⟩
 ·exact⟨⟨by omega,by grind⟩,rfl⟩
theorem Ca(h:h8 m A B)(an:mR b):m.size (1+b)=kI A B b:=by unfold bt.size;rw[if_pos (yp h an).1,(yp h an).2]
theorem yq(h:h8 m A B)(an:mR b){y:Nat}(ba:y<kI A B b):off A b+y<m.d.cells.length:=by
 have:=h.B9
 grind[kI,off]
theorem yr(h:h8 m A B)(an:mR b){y:Nat}(ba:y<kI A B b):m.iX (1+b) y=(((off A b+y:Nat):Int),0):=by unfold bt.iX;rw[if_neg (fun af=>af (yp h an).1),(yp h an).2,if_neg (by omega)];rfl
theorem Cb(h:h8 m A B)(an:mR b){y:Nat}(ba:y<kI A B b):(m.gA (1+b) y).1=ej m.d (off A b+y):=by unfold bt.gA;rw[yr h an ba,if_neg (by simp)];exact afE (yq h an ba)
theorem Cc(h:h8 m A B)(ad:lM.jF=m.jF)(af:lM.d.cells.length=m.d.cells.length):h8 lM A B:=⟨by rw[ad];exact h.cF,by rw[af];exact h.B9⟩
theorem SL(h:h8 m A B)(an:mR b){y:Nat}(ba:y<kI A B b):(m.fb (1+b) y).1.d=(m.d.fb ((off A b+y:Nat):Int)).1/\(m.fb (1+b) y).2=(m.d.fb ((off A b+y:Nat):Int)).2/\(m.fb (1+b) y).1.jF=m.jF/\(w2 (1+b) m.bA->w2 (1+b) (m.fb (1+b) y).1.bA):=by
 unfold bt.fb;rw[yr h an ba,if_neg (by simp)]
 simp_all[bt.yc,bt.BH,L0]
theorem SM(h:h8 m A B)(an:mR b){y:Nat}(ba:y<kI A B b):(m.eS (1+b) y s).1.d=(m.d.eS ((off A b+y:Nat):Int) s).1/\(m.eS (1+b) y s).2=(m.d.eS ((off A b+y:Nat):Int) s).2/\(m.eS (1+b) y s).1.jF=m.jF/\(w2 (1+b) m.bA->w2 (1+b) (m.eS (1+b) y s).1.bA):=by
 unfold bt.eS;rw[yr h an ba,if_neg (by simp)]
 simp_all[bt.yc,bt.BH,L0]
structure e2 (w:bU) (n:Nat) (aF:Int) (f g:Nat->List Int):Prop where
 k8:w.s.uL w.cA
 c4:w.s.dh=aF
 cw:w.dh=aF
 kY:w.s.kY=1
 dK:w.s.dK=2
 ib:mR aF
 gg:h8 w.m n n
 h9:w.m.d.fK=false
 jf:w.m.d.gv=-1
 gQ:w.m.d.gQ=100
 f:∀i,i<n->ej w.m.d (off n aF+i)=f i
 g:∀i,i<n->ej w.m.d (off n (1-aF)+i)=g i
theorem e2.part(h:e2 w n aF f g):w.s.part aF=1+aF:=by
 unfold gK.part;rcases h.ib with e|e<;>subst e
 ·rw[if_neg (by omega),if_pos rfl,h.kY];rfl
 ·rw[if_neg (by omega),if_neg (by omega),h.dK];rfl
theorem e2.size(h:e2 w n aF f g):w.size=n:=by unfold bU.size;rw[h.cw,h.part,Ca h.gg h.ib,uQ]
theorem SO{A B:Nat}{b:Int}(h:h8 m A B)(an:mR b)(ba:y<kI A B b):(m.gA (1+b) y).2=0:=by unfold bt.gA;rw[yr h an ba,if_neg (by simp)];exact afF (yq h an ba)
theorem e2.gA(h:e2 w n aF f g)(ba:y<n):w.s.gA w.m w.dh y=(f y,0):=by
 unfold gK.gA;have aw:kI n n aF=n:=uQ;have aX:¬(1+aF:Int)<0:=by rcases h.ib with e|e<;>omega
 rw[h.cw,h.part,if_neg aX];refine Prod.ext ?_ ?_
 ·show(w.m.gA (1+aF) y).1=_;rw[Cb h.gg h.ib (by omega)];exact h.f y ba
 ·exact SO h.gg h.ib (by omega)
theorem e2.po(h:e2 w n aF f g)(ba:y<n):po w y↔f y≠jd:=by
 unfold J.po;rw[h.gA ba]
 simp_all
theorem SP{i j:Nat}(an:mR aF)(aq:i<n)(bp:j<n):off n aF+i≠off n (1-aF)+j:=by grind[off]
theorem e2.Hv(h:e2 w n aF f g)(ba:y<n)(bJ:afI w aL)(af:h8 aL.m n n)(bM:vU w.m.d (off n aF+y) x aL.m.d):e2 aL n aF (q6 f y x) g:=by
 refine⟨by rw[bJ.s,bJ.cA];exact h.k8,by rw[bJ.s];exact h.c4,by rw[bJ.dh];exact h.cw,by rw[bJ.s];exact h.kY,by rw[bJ.s];exact h.dK,h.ib,af,bM.h9,by rw[bM.jf (by rw[h.jf];decide)];exact h.jf,by rw[bM.m];exact h.gQ,?_,?_⟩
 ·intro i aq;rw[bM.s];unfold q6;by_cases e:i=y
  ·simp_all
  ·rw[if_neg (by omega),if_neg e];exact h.f i aq
 ·intro i aq;rw[bM.s,if_neg (SP h.ib ba aq)];exact h.g i aq
theorem h8.as{a:Int}(h:h8 m n n):h8 {m with dW:=a} n n:=⟨h.cF,h.B9⟩
theorem e2.rR(h:e2 w n aF f g)(ba:y<n)(aM:wr w.m.d (off n aF+y)<100):e2 (w.rR y) n aF (q6 f y jd) g/\(w.rR y).bu=0/\(∀j,wr (w.rR y).m.d j=if off n aF+y=j then wr w.m.d (off n aF+y)+1 else wr w.m.d j):=by
 have aw:kI n n aF=n:=uQ;have bn:w.rR y=w.put (w.s.as w.m w.cA (·.fb (1+aF) y)):=by unfold bU.rR;rw[h.c4,h.part]
 rw[EJ h.k8]at bn;have af:h8 {w.m with dW:=w.s.im} n n:=h.gg.as;obtain⟨a8,dL,t3,_⟩:=SL af h.ib (y:=y) (by omega);rcases afA (d:=w.m.d) (i:=off n aF+y) (yq h.gg h.ib (by omega)) h.h9 (by rw[h.gQ];exact aM)with⟨_,bJ⟩|⟨db,cp,ga⟩
 ·have:=bJ.b;rw[h.jf]at this;omega
 ·rw[bn];refine⟨?_,dL.trans db,?_⟩
  ·refine h.Hv ba ⟨rfl,rfl,rfl,rfl⟩ ?_ ?_
   ·exact Cc h.gg t3 (by show(bt.fb {w.m with dW:=w.s.im} (1+aF) y).1.d.cells.length=_;rw[a8];exact cp.len)
   ·show vU w.m.d _ jd (bt.fb {w.m with dW:=w.s.im} (1+aF) y).1.d;rw[a8];exact cp
  ·intro j;show wr (bt.fb {w.m with dW:=w.s.im} (1+aF) y).1.d j=_
   simp_all
theorem e2.afJ(h:e2 w n aF f g)(ba:w.wr<n)(an:f w.wr=jd)(x:List Int):e2 (w.pV x) n aF (q6 f w.wr x) g/\(w.pV x).bu=0/\(∀j,wr (w.pV x).m.d j=wr w.m.d j):=by
 have aw:kI n n aF=n:=uQ;have bn:w.pV x=w.put (w.s.as w.m w.cA (·.eS (1+aF) w.wr x)):=by unfold bU.pV;rw[h.c4,h.part]
 rw[EJ h.k8]at bn;have af:h8 {w.m with dW:=w.s.im} n n:=h.gg.as;obtain⟨a8,dL,t3,_⟩:=SM (s:=x) af h.ib (y:=w.wr) (by omega);rcases afB (d:=w.m.d) (i:=off n aF+w.wr) (s:=x) (yq h.gg h.ib (by omega)) h.h9 (by rw[h.f _ ba];exact an)with⟨_,bJ⟩|⟨db,cp,ga⟩
 ·have:=bJ.b;rw[h.jf]at this;omega
 ·rw[bn];refine⟨?_,dL.trans db,?_⟩
  ·refine h.Hv ba ⟨rfl,rfl,rfl,rfl⟩ ?_ ?_
   ·exact Cc h.gg t3 (by show(bt.eS {w.m with dW:=w.s.im} (1+aF) w.wr x).1.d.cells.length=_;rw[a8];exact cp.len)
   ·show vU w.m.d _ x (bt.eS {w.m with dW:=w.s.im} (1+aF) w.wr x).1.d;rw[a8];exact cp
  ·intro j;show wr (bt.eS {w.m with dW:=w.s.im} (1+aF) w.wr x).1.d j=_
   simp_all
theorem e2.congr(h:e2 w n aF f g){xj:Nat->List Int}(hf:∀i,i<n->f i=xj i):e2 w n aF xj g:=⟨h.k8,h.c4,h.cw,h.kY,h.dK,h.ib,h.gg,h.h9,h.jf,h.gQ,fun i aq=>(h.f i aq).trans (hf i aq),h.g⟩
theorem e2.lq(h:e2 w n aF f g):e2 w.lq n aF f g/\w.lq.bu=0/\w.lq.m.d.done=[]:=by have bn:w.lq=w.put (w.s.as w.m w.cA (·.iS)):=rfl;rw[EJ h.k8]at bn;obtain⟨db,cp⟩:=SR h.h9 h.jf;rw[bn];refine⟨⟨h.k8,h.c4,h.cw,h.kY,h.dK,h.ib,Cc h.gg rfl cp.len,cp.h9,cp.jf,cp.gQ.trans h.gQ,fun i aq=>(cp.ej _).trans (h.f i aq),fun i aq=>(cp.ej _).trans (h.g i aq)⟩,db,cp.done⟩
theorem e2.all(h:e2 w n aF f g):w.m.all (1+aF)=(List.range n).flatMap f:=by
 have aw:kI n n aF=n:=uQ;unfold bt.all bt.vN;rw[Ca h.gg h.ib,aw];refine EK _ fun i aq=>?_
 rw[Cb h.gg h.ib (by simp_all)];exact h.f i (List.mem_range.1 aq)
theorem e2.oq(h:e2 w n aF f g):w.m.all (1+(1-aF))=(List.range n).flatMap g:=by
 have aw:kI n n (1-aF)=n:=uQ;unfold bt.all bt.vN;rw[Ca h.gg (L3 h.ib),aw];refine EK _ fun i aq=>?_
 rw[Cb h.gg (L3 h.ib) (by simp_all)];exact h.g i (List.mem_range.1 aq)
theorem afR(h:e2 w n aF f g)(he:w.bu=0)(aw:w.dx=3)(eu:w.aW.c0<=((List.range n).flatMap f).length)(aJ:gB (((List.range n).flatMap f).take w.aW.c0.toNat)=w.aW.cq):
  ∃aL,w.step=(true,aL)/\e2 aL n aF f g/\aL.bu=0/\aL.dx=4/\aL.wr=w.wr/\aL.m.d.done=[]:=by
 obtain⟨bQ,cE,ff⟩:=h.lq;have br:w.lq.m.all (w.s.part w.dh)=(List.range n).flatMap f:=by rw[h.cw,h.part];exact bQ.all
 refine⟨{w.lq with dx:=4},?_,⟨bQ.k8,bQ.c4,bQ.cw,bQ.kY,bQ.dK,bQ.ib,bQ.gg,bQ.h9,bQ.jf,bQ.gQ,bQ.f,bQ.g⟩,cE,rfl,rfl,ff⟩
 simp_all[L2,bU.mz]
theorem e2.vV(h:e2 w n aF f g)(q:List jl):e2 {w with q:=q} n aF f g:=⟨h.k8,h.c4,h.cw,h.kY,h.dK,h.ib,h.gg,h.h9,h.jf,h.gQ,h.f,h.g⟩
end V
end J
namespace J
open Go Go.Ab
namespace V
variable{d:bO}{m:bt}{x b:List Int}{n k e c t j aa:Nat}{w aL:bU}{aF cb:Int}{f g:Nat->List Int}{aI:df}
structure yz (aI:df) (b:List Int) (aa n:Nat):Prop where
 r:eB aI
 C:aI.aE=64*(aa:Int)
 c0:aI.c0=b.length
 cq:aI.cq=gB b
 ek:hM b.length<=n
 agV:n<=20
def re(aI:df)(b:List Int)(i:Int):List Int:=(b.drop (gw aI i).1.toNat).take (gw aI i).2.toNat
def uV(cb:Int)(aI:df)(b:List Int)(c:Nat):jl:=if c=0 then .nk cb aI else if c<=aI.a1.length then .body ((c-1:Nat):Int) (re aI b ((c-1:Nat):Int))else .eC
def rf(cb:Int)(aI:df)(b:List Int):List jl:=(List.range (aI.a1.length+2)).map (uV cb aI b)
theorem agW(aA:c<e)(he:e<=aI.a1.length+2):((rf cb aI b).take e).drop c=uV cb aI b c::((rf cb aI b).take e).drop (c+1):=by simp_all[rf,List.drop_eq_getElem_cons]
theorem aAo(he:e<aI.a1.length+2)(aA:c<=e):((rf cb aI b).take (e+1)).drop c=((rf cb aI b).take e).drop c++[uV cb aI b e]:=by grind[rf,Tn]
def mA(aI:df)(b:List Int)(aa j:Nat):Nat:=if j=aI.a1.length then hM b.length else j*aa
theorem EU(ja:yz aI b aa n)(bp:j<aI.a1.length):∃l:Nat,gw aI j=(((64*(j*aa):Nat):Int),(l:Int))/\l≠0/\64*(j*aa)+l<=b.length/\(l%64=0\/64*(j*aa)+l=b.length)/\j*aa+hM l=mA aI b aa (j+1)/\re aI b j=(b.drop (64*(j*aa))).take l:=by
 obtain⟨U,jO,eU,_,_,_⟩:=ja;obtain⟨c4,cw,ru,LI⟩:=LH (i:=(j:Int)) U (by omega) (by omega);have mq:1<=aa:=by have:=U.2.2.2.2.2.1;omega
 have agX:(j:Int)*aI.aE=((64*(j*aa):Nat):Int):=by grind
 rw[agX]at c4 cw ru LI;have aAp:(j+1)*aa=j*aa+aa:=Nat.succ_mul j aa;unfold mA;rw[aAp];have aAq:gw aI j=((j:Int)*aI.aE,min aI.aE (aI.c0-(j:Int)*aI.aE)):=by simp_all[gw,if_neg]
 rw[agX]at aAq;generalize j*aa=J at*;obtain⟨l,aD,sc,mf,q0⟩:∃l:Nat,min aI.aE (aI.c0-((64*J:Nat):Int))=l/\l≠0/\64*J+l<=b.length/\(l=64*aa/\j+1≠aI.a1.length\/64*J+l=b.length/\l<=64*aa/\j+1=aI.a1.length):=by
  rw[eU,jO]at*;by_cases h:(j:Int)=(aI.a1.length:Int)-1
  ·obtain⟨dm,da⟩:=ru h;exact⟨b.length-64*J,by omega,by omega,by omega,.inr ⟨by omega,by omega,by omega⟩⟩
  ·have dm:=LI h;exact⟨64*aa,by omega,by omega,by omega,.inl ⟨rfl,by omega⟩⟩
 refine⟨l,by grind,sc,mf,by omega,?_,?_⟩
 ·unfold hM
  grind
 grind[re]
theorem aAr(ja:yz aI b aa n)(bp:j<=aI.a1.length):mA aI b aa j<=hM b.length:=by
 by_cases h:j=aI.a1.length
 ·simp_all[mA]
 ·obtain⟨l,_,_,ax,_,bl,_⟩:=EU ja (show j<aI.a1.length by omega);unfold mA;rw[if_neg h]
  grind[hM]
inductive sR (n:Nat) (aF:Int) (g:Nat->List Int) (aI:df) (b:List Int) (aa:Nat):bU->Nat->Nat->Prop
 | Cq {w:bU} (f:Nat->List Int):e2 w n aF f g->w.bu=0->w.dx=0->w.fM=[]->w.ez=0->w.wr=0->(∀j,wr w.m.d j<=0)->sR n aF g aI b aa w 0 (sM f n+hM b.length+aI.a1.length+4)
 | mu {w:bU} (f:Nat->List Int) (e:Nat):e2 w n aF f g->w.bu=0->w.dx=1->w.fM=[]->w.ez=0->w.wr=0->w.aW=aI->(∀j,wr w.m.d j<=e)->e+sM f n<=99->sR n aF g aI b aa w 1 (sM f n+hM b.length+aI.a1.length+3)
 | fill {w:bU} (j:Nat):e2 w n aF (tB b w.wr) g->w.bu=0->w.dx=2->w.ez=j->w.aW=aI->j<=aI.a1.length->w.wr<=mA aI b aa j->w.fM=(List.range (mA aI b aa j-w.wr)).map (fun i=>pW b (w.wr+i))->sR n aF g aI b aa w (1+j) ((hM b.length-w.wr)+(aI.a1.length-j)+2)
 | mz {w:bU}:e2 w n aF (tB b (hM b.length)) g->w.bu=0->w.dx=3->w.wr=hM b.length->w.aW=aI->sR n aF g aI b aa w (2+aI.a1.length) 1
 | done {w:bU}:e2 w n aF (tB b (hM b.length)) g->w.bu=0->w.dx=4->w.wr=hM b.length->w.m.d.done=[]->sR n aF g aI b aa w (2+aI.a1.length) 0
theorem sR.vV(h:sR n aF g aI b aa w c t)(q:List jl):sR n aF g aI b aa {w with q:=q} c t:=by
 cases h with
 | Cq f ad af ax aO bl bL cn=>exact .Cq f (ad.vV q) af ax aO bl bL cn
 | mu f e ad af ax aO bl bL cn dA fo=>exact .mu f e (ad.vV q) af ax aO bl bL cn dA fo
 | fill j ad af ax aO bl bL cn dA=>exact .fill (w:={w with q:=q}) j (ad.vV q) af ax aO bl bL cn dA
 | mz ad af ax aO bl=>exact .mz (w:={w with q:=q}) (ad.vV q) af ax aO bl
 | done ad af ax aO bl=>exact .done (w:={w with q:=q}) (ad.vV q) af ax aO bl
theorem sR.TH(h:sR n aF g aI b aa w c t):w.bu=0:=by cases h<;>assumption
theorem sR.step(ja:yz aI b aa n)(h:sR n aF g aI b aa w c t)(b5:w.q=((rf cb aI b).take e).drop c)(he:e<=aI.a1.length+2)(aA:c<=e):
  (w.step=(false,w)/\(c=e\/w.dx=4))\/∃aL cC mC,w.step=(true,aL)/\sR n aF g aI b aa aL cC mC/\mC<t/\aL.q=((rf cb aI b).take e).drop cC/\c<=cC/\cC<=e:=by
 have hL:0<aI.a1.length:=Cp ja.r;have aX:=ja.ek;have aAs:=ja.agV;have nil:c=e->w.q=[]:=by simp_all
 cases h with
 | Cq f ad af ax aO bl bL cn=>
  by_cases aR:0=e
  ·simp_all[afO]
  ·rw[agW (by omega) he]at b5;refine .inr ⟨{w with q:=((rf cb aI b).take e).drop 1,aW:=aI,dx:=1,bu:=0},1,_,?_,.mu f 0 ⟨ad.k8,ad.c4,ad.cw,ad.kY,ad.dK,ad.ib,ad.gg,ad.h9,ad.jf,ad.gQ,ad.f,ad.g⟩ rfl rfl aO bl bL rfl cn (by grind[afM]),by omega,rfl,by omega,by omega⟩;rw[SQ af (.inl ax) aO b5];unfold bU.kr;rw[if_pos ax];show(true,({w with q:=_}:bU).ym aI)=_;unfold bU.ym;have eU:({w with q:=((rf cb aI b).take e).drop (0+1)}:bU).size=n:=(ad.vV _).size;have oI:b.length<=64*hM b.length:=by grind[hM]
   have anV:=ja.c0;rw[if_neg (by simp[ja.r]),eU,if_neg (by omega)]
 | mu f bn ad af ax aO bl bL cn dA fo=>
  cases aD:w.tA w.size 0 with
  | none=>
   have an:∀i,i<n->f i=jd:=by
    intro i aq;have:=afH _ _ aD i (Nat.zero_le _) (by rw[ad.size];omega);rw[ad.po aq]at this
    simp_all
   have eu:=ayi an;refine .inr ⟨{w with dx:=2},1+0,_,by simp_all[afN,bU.mu],.fill (w:={w with dx:=2}) 0 ?_ af rfl bl cn (Nat.zero_le _) ?_ ?_,?_,b5,by omega,by omega⟩
   ·have:=ad.congr (xj:=tB b w.wr) (fun i aq=>by simp_all[tB]);exact⟨this.k8,this.c4,this.cw,this.kY,this.dK,this.ib,this.gg,this.h9,this.jf,this.gQ,this.f,this.g⟩
   ·simp_all
   ·show w.fM=_;have:mA aI b aa 0=0:=by unfold mA;grind
    simp_all
   omega
  | some z=>
   obtain⟨_,oB,z3⟩:=afG _ _ _ aD;rw[ad.size]at oB;have TI:z<n:=by omega
   have eu:=(ad.po TI).1 z3;obtain⟨bQ,cE,ff⟩:=ad.rR TI (by grind);have aJ:=afL (f:=f) (x:=jd) n TI;rw[if_pos eu,if_neg (by simp)]at aJ;refine .inr ⟨w.rR z,1,_,by simp_all[afN,bU.mu],.mu (q6 f z jd) (bn+1) bQ cE ax aO bl bL cn (fun j=>by grind) (by omega),by omega,b5,by omega,by omega⟩
 | fill j ad af ax aO bl bL cn dA=>
  have hh:=aAr ja bL;by_cases aM:w.wr=mA aI b aa j
  ·have sz:w.fM=[]:=by simp_all
   by_cases aR:1+j=e
   ·simp_all[afO]
   ·rw[agW (by omega) he]at b5;by_cases bp:j<aI.a1.length
    ·-- a chunk
     obtain⟨l,db,cp,ga,jc,lh,kA⟩:=EU ja bp;have w6:w.wr=j*aa:=by rw[aM];unfold mA;grind
     have sv:uV cb aI b (1+j)=.body j ((b.drop (64*w.wr)).take l):=by
      unfold uV
      grind
     rw[sv]at b5;have rn:((b.drop (64*w.wr)).take l).length=l:=by grind
     generalize AU:(b.drop (64*w.wr)).take l=cc at*;refine .inr ⟨{w with q:=((rf cb aI b).take e).drop (1+j+1),fM:=my cc,ez:=w.ez+1,bu:=0},1+(j+1),_,?_,.fill (w:={w with q:=((rf cb aI b).take e).drop (1+j+1),fM:=my cc,ez:=w.ez+1,bu:=0}) (j+1) ⟨ad.k8,ad.c4,ad.cw,ad.kY,ad.dK,ad.ib,ad.gg,ad.h9,ad.jf,ad.gQ,ad.f,ad.g⟩ rfl ax (by simp_all) bl bp ?_ ?_,?_,rfl,by omega,by omega⟩
     ·rw[SQ af (.inr ax) sz b5]
      simp_all[bU.kr,bU.body]
     ·grind
     ·show my cc=_;unfold my;rw[rn,show mA aI b aa (j+1)-w.wr=hM l by omega]
      grind[List.map_congr_left,ayp]
     grind
    ·have aCQ:j=aI.a1.length:=by omega
     have sv:uV cb aI b (1+j)=.eC:=by simp_all[uV]
     rw[sv]at b5;have agY:w.wr=hM b.length:=by simp_all[mA]
     refine .inr ⟨{w with q:=((rf cb aI b).take e).drop (1+j+1),dx:=3},2+aI.a1.length,_,?_,.mz (w:={w with q:=((rf cb aI b).take e).drop (1+j+1),dx:=3}) ?_ af rfl agY bl,by omega,by grind,by omega,by omega⟩
     ·rw[SQ af (.inr ax) sz b5]
      simp_all[bU.kr]
     ·rw[agY]at ad;exact⟨ad.k8,ad.c4,ad.cw,ad.kY,ad.dK,ad.ib,ad.gg,ad.h9,ad.jf,ad.gQ,ad.f,ad.g⟩
  ·-- a sector
   obtain⟨k,ag⟩:∃k,mA aI b aa j-w.wr=k+1:=⟨mA aI b aa j-w.wr-1,by omega⟩;have sz:w.fM=pW b w.wr::(List.range k).map (fun i=>pW b (w.wr+1+i)):=by
    rw[dA,ag,List.range_succ_eq_map,List.map_cons,List.map_map]
    congr 1
    grind[List.map_congr_left]
   obtain⟨bQ,cE,ff⟩:=ad.afJ (show w.wr<n by omega) (by simp_all[tB]) (pW b w.wr);have hf:w.fill (pW b w.wr) ((List.range k).map (fun i=>pW b (w.wr+1+i)))={w.pV (pW b w.wr)with fM:=(List.range k).map (fun i=>pW b (w.wr+1+i)),wr:=w.wr+1}:=by simp_all[bU.fill]
   have bD:∀i,i<n->q6 (tB b w.wr) w.wr (pW b w.wr) i=tB b (w.wr+1) i:=by
    intro i _;unfold q6 tB
    grind
   have uW:=bQ.congr bD;refine .inr ⟨_,1+j,_,by grind[ayj],.fill (w:={w.pV (pW b w.wr)with fM:=(List.range k).map (fun i=>pW b (w.wr+1+i)),wr:=w.wr+1}) j ⟨uW.k8,uW.c4,uW.cw,uW.kY,uW.dK,uW.ib,uW.gg,uW.h9,uW.jf,uW.gQ,uW.f,uW.g⟩ cE ax aO bl bL (by grind) ?_,?_,b5,by omega,by omega⟩
   ·grind
   grind
 | mz ad af ax aO bl=>
  have CV:=ayo (b:=b) (n:=n) aX;have oI:b.length<=64*hM b.length:=by grind[hM]
  obtain⟨aL,db,cp,ga,jc,lh,kA⟩:=afR ad af ax (by rw[bl,ja.c0,CV,List.length_append];omega) (by rw[bl,ja.c0,ja.cq,CV,Int.toNat_natCast,List.take_left' rfl]);have aAt:aL.q=w.q:=by
   have:=db;rw[L2 af ax]at this;injection this with _ this
   rw[<- this];unfold bU.mz;split
   ·rfl
   ·split<;>rfl
  exact .inr ⟨aL,2+aI.a1.length,0,db,.done cp ga jc (lh.trans aO) kA,by omega,aAt.trans b5,by omega,by omega⟩
 | done ad af ax aO bl=>simp_all[ayk]
end V
end J
namespace J
open Go Go.Ab
namespace V
variable{key b:List Int}{n e t j aa:Nat}{cb a hr:Int}{aI:df}{l:dV}{bf:hC}{bz:List (Int×List Int)}{q:Int×List Int}{f:pq}
def qA(key:List Int)(cb:Int)(aI:df)(b:List Int)(q:Int×List Int):Prop:=if q.1=-1 then eN key q.2=(aI,cb,0)else q.2=re aI b q.1
def nC(key:List Int)(aI:df)(q:Int×List Int):Prop:=if q.1=-1 then(eN key q.2).2.2≠0 else(q.2.length:Int)≠(gw aI q.1).2
instance:Decidable (nC key aI q):=by unfold nC;infer_instance
def Cr(key:List Int)(aI:df)(bz:List (Int×List Int)):Nat:=bz.countP fun q=>decide (nC key aI q)
theorem aAu:Cr key aI (bz++[q])=Cr key aI bz+if nC key aI q then 1 else 0:=by simp_all[Cr]
theorem aAv:Cr key aI (q::bz)=Cr key aI bz+if nC key aI q then 1 else 0:=by simp_all[Cr,List.countP_cons]
structure rX (key:List Int) (cb:Int) (aI:df) (b:List Int) (aa n:Nat):Prop where
 i:yz aI b aa n
 ok:aI.b1
 cb:cb=((iW key aI).length:Int)
def nX(key:List Int)(aI:df)(b:List Int):List Int:=iW key aI++b
def EV(bR:List pq):Prop:=∀f∈bR,f.js=1\/f.js=3
theorem agZ(ck:rX key cb aI b aa n)(t:Nat):qA key cb aI b (-1,((nX key aI b).take 2304).take t)\/nC key aI (-1,((nX key aI b).take 2304).take t):=by
 obtain⟨ja,ok,TJ⟩:=ck;have aD:=B0 (key:=key) ok ja.r;unfold qA nC nX;simp only[if_true];rw[List.take_take];by_cases h:(iW key aI).length<=min t 2304
 ·left;rw[List.take_append,List.take_of_length_le h,aex ok ja.r,TJ]
 ·right;rw[List.take_append_of_le_length (by omega),avH ok ja.r (by omega)];decide
theorem ag0(ck:rX key cb aI b aa n):qA key cb aI b (-1,(nX key aI b).take 2304):=by have h:=agZ ck (nX key aI b).length;rw[List.take_of_length_le (by grind)]at h;obtain⟨ja,ok,TJ⟩:=ck;have aD:=B0 (key:=key) ok ja.r;unfold qA nX;simp only[if_true];rw[List.take_append,List.take_of_length_le (by omega),aex ok ja.r,TJ]
theorem ag1(h:qA key cb aI b q)(b5:q.1=-1\/(q.2.length:Int)=(gw aI q.1).2):¬nC key aI q:=by
 unfold qA at h;unfold nC
 grind
theorem TK(ja:yz aI b aa n)(bp:j<aI.a1.length):((re aI b j).length:Int)=(gw aI j).2:=by grind[EU]
theorem aAw(ck:rX key cb aI b aa n)(bp:j<aI.a1.length)(t:Nat):qA key cb aI b ((j:Int),(re aI b j).take t)\/nC key aI ((j:Int),(re aI b j).take t):=by
 have aD:=TK ck.i bp;unfold qA nC;rw[if_neg (by omega),if_neg (by omega)]
 grind[List.take_of_length_le]
theorem ag2{i:Int}{dM:List Int}(vX:EV bf.bR)(aA:nW (nX key aI b) a hr=dM)(aCR:qA key cb aI b (i,dM))(avp:¬nC key aI (i,dM))(dz:∀t,qA key cb aI b (i,dM.take t)\/nC key aI (i,dM.take t)):
  ((pX (nX key aI b) a hr bf.next.1).2=181/\bf.next.2.length+1=bf.bR.length)\/((pX (nX key aI b) a hr bf.next.1).2=0/\(qA key cb aI b (i,(pX (nX key aI b) a hr bf.next.1).1)\/nC key aI (i,(pX (nX key aI b) a hr bf.next.1).1))/\bf.next.2.length+(if nC key aI (i,(pX (nX key aI b) a hr bf.next.1).1)then 1 else 0)<=bf.bR.length):=by
 unfold hC.next;cases hf:bf.bR with
 | nil=>simp_all[pX]
 | cons f r=>
  simp only;rcases vX f (by simp_all)with h|h
  ·simp_all[pX]
  ·right;have e:pX (nX key aI b) a hr f=(dM.take (max 0 (min f.uc (dM.length:Int))).toNat,0):=by simp_all[pX]
   grind
theorem Ml(vX:EV bf.bR):EV bf.next.2:=by
 unfold hC.next;cases hf:bf.bR with
 | nil=>simp[EV]
 | cons f r=>exact fun g hg=>vX g (by simp_all)
theorem aAx(ck:rX key cb aI b aa n):nW (nX key aI b) 0 2304=(nX key aI b).take 2304:=by rfl
theorem aAy(ck:rX key cb aI b aa n)(bp:j<aI.a1.length):nW (nX key aI b) (cb+(gw aI j).1) (gw aI j).2=re aI b j:=by
 obtain⟨l,ad,af,ax,aO,bl,bL⟩:=EU ck.i bp;rw[bL,ad,ck.cb];unfold nW nX;show(if((iW key aI).length:Int)+((64*(j*aa):Nat):Int)<0\/_\/((l:Nat):Int)<1 then _ else _)=_;rw[if_neg (by grind)]
 grind[Int.toNat_natCast,List.drop_drop,List.drop_left]
end V
end J
namespace J
open Go Go.Ab
namespace V
variable{key b bs aj:List Int}{n k y e t aa w eR:Nat}{cb:Int}{aI:df}{l aG:dV}{aE:eL}{bf rT:hC}{bz D gk:List (Int×List Int)}{q:Int×List Int}{cU:List jl}{ks:Bool}{s:jl}
structure EW (key:List Int) (aI:df) (b:List Int) (eR:Nat) (l:dV) (aE:eL) (bf:hC):Prop where
 ek:l.bu=0
 DW:aE.bu=0
 fs:w3 bf.off (mx l.fs)=some (nX key aI b)
 ag3:aE.key=key
 Nx:oN aI aE.t=0
 bR:EV bf.bR
 bN:aE.bN=eR
 sJ:aE.er.length<=eR
inductive nD (key:List Int) (cb:Int) (aI:df) (b:List Int) (eR:Nat):dV->eL->hC->Nat->Nat->Prop
 | head {l:dV} {aE:eL} {bf:hC}:l.dc=none->aE.aw=none->aE.e7=[]->aE.cZ=false->l.eo=-1->aE.er=[]->aE.cU=[]->bf.bR.length<=l.left->nD key cb aI b eR l aE bf 0 (2*aI.a1.length+4+l.left*(2*eR+3))
 | pt {l:dV} {aE:eL} {bf:hC} (bs:List Int):l.dc=none->aE.aw=none->aE.e7=[]->aE.cZ=false->l.eo=-2->aE.er=[(-1,bs)]->aE.cU=[]->(qA key cb aI b (-1,bs)\/nC key aI (-1,bs))->bf.bR.length+(if nC key aI (-1,bs)then 1 else 0)<=l.left->nD key cb aI b eR l aE bf 0 (2*aI.a1.length+3+l.left*(2*eR+3))
 | jG {l:dV} {aE:eL} {bf:hC}:l.dc=none->aE.aw=none->aE.e7=[]->aE.cZ=false->l.eo=-2->aE.er=[]->aE.cU=[.il (-1)]->bf.bR.length+1<=l.left->nD key cb aI b eR l aE bf 0 (2*aI.a1.length+5+(l.left-1)*(2*eR+3))
 | good {l:dV} {aE:eL} {bf:hC}:l.dc=none->aE.aw=some ([],0)->aE.cZ=false->l.eo=-2->aE.er=[]->aE.cU=[.nk cb aI]->aE.aW=aI->bf.bR.length<=l.left->nD key cb aI b eR l aE bf 1 (2*aI.a1.length+2+l.left*(2*eR+3))
 | il {l:dV} {aE:eL} {bf:hC} (aj:List Int) (w:Nat):l.dc=some (cb,aI)->aE.aW=aI->aE.aw=some (aj,w)->aj=b.take (64*mA aI b (aI.aE/64).toNat w)->w<aI.a1.length->aE.cZ=false->aE.cU=[.il w]->(∀p∈aE.er,p.1≠w)->bf.bR.length+1<=l.left->nD key cb aI b eR l aE bf (1+w) (2*(aI.a1.length-w)+aE.er.length+2+(l.left-1)*(2*eR+3))
 | on {l:dV} {aE:eL} {bf:hC} (aj:List Int) (w k:Nat) (D gk:List (Int×List Int)):l.dc=some (cb,aI)->aE.aW=aI->aE.aw=some (aj,w)->aj=b.take (64*mA aI b (aI.aE/64).toNat w)->w<=k->k<=aI.a1.length->aE.cU=[]->l.eo=oV aI k->aE.er=D++gk->gk.map (·.1)=sQ w k->(∀d∈D,d.1≠w)->(w=aI.a1.length->D=[])->(aE.cZ=true->w=aI.a1.length)->(∀q∈gk,qA key cb aI b q\/nC key aI q)->bf.bR.length+Cr key aI gk<=l.left->nD key cb aI b eR l aE bf (1+w+if aE.cZ then 1 else 0) (2*(aI.a1.length-k)+aE.er.length+(if aE.cZ then 0 else 1)+l.left*(2*eR+3))
theorem nD.Sz(U:eB aI)(h:nD key cb aI b eR l aE bf e t):rW l aE:=by
 cases h with
 | head ad af ax aO bl bL cn dA=>exact .head ad af ax aO bl bL cn
 | pt bs ad af ax aO bl bL cn dA=>exact .pt bs ad af ax aO bl bL cn
 | jG ad af ax aO bl bL cn dA=>exact .jG ad af ax aO bl bL cn
 | good ad af ax aO bl bL cn dA=>exact .good cb ad af ax aO bl (by simp_all) (by rw[cn];exact U)
 | il aj w ad af ax aO bl bL cn dA=>subst af;exact .il cb aj w ad U ax bl bL cn dA
 | on aj w k D gk ad af ax aO bl bL cn dA fo hS ke pj vZ uT nN=>
  subst af;refine .on cb aj w k (D.map (·.1)) ad U ax bl bL cn dA (by simp_all) ?_ (fun h=>by simp_all) vZ
  grind
theorem TL{n:Nat}(he:l.bu=0):iC n l bz (s::cU) bf=(true,l.follow s,bz,cU,bf):=by simp_all[iC]
theorem TM{n:Nat}(he:l.bu=0)(h:l.eo=-2\/bz.length=n):iC n l bz [] bf=(false,l,bz,[],bf):=by simp_all[iC]
theorem ag4{n:Nat}(he:l.bu=0)(ad:l.eo≠-2)(af:bz.length≠n){B:List Int}(hf:w3 bf.off (mx l.fs)=some B):iC n l bz [] bf=
  if(pX B l.jn.1 l.jn.2 bf.next.1).2=0 then(true,l.on,bz++[(l.eo,(pX B l.jn.1 l.jn.2 bf.next.1).1)],[],{bf with bR:=bf.next.2,du:=bf.du+1})
  else if(pX B l.jn.1 l.jn.2 bf.next.1).2=181 then(true,l.try.2,bz,[],{bf with bR:=bf.next.2,du:=bf.du+1})else(true,{l with bu:=(pX B l.jn.1 l.jn.2 bf.next.1).2},bz,[],{bf with bR:=bf.next.2,du:=bf.du+1}):=by
 simp_all[iC,hC.mS]
theorem ag5(h:l.left≠0):l.try.2={l with left:=l.left-1}:=by simp_all[dV.try]
theorem Mm{x y:Nat}(h:1<=x):x*y=(x-1)*y+y:=by
 obtain⟨z,rfl⟩:∃z,x=z+1:=⟨x-1,by omega⟩
 grind
theorem nD.agS(ck:rX key cb aI b aa n)(aJ:1<=eR)(aA:EW key aI b eR l aE bf)(h:nD key cb aI b eR l aE bf e t)(U:iC aE.bN l aE.er aE.cU bf=(ks,aG,bz,cU,rT)):
  EW key aI b eR aG {aE with er:=bz,cU:=cU} rT/\((ks=true/\∃mC,mC<t/\nD key cb aI b eR aG {aE with er:=bz,cU:=cU} rT e mC)\/(ks=false/\aG=l/\bz=aE.er/\cU=aE.cU/\rT=bf)):=by
 obtain⟨db,cp,ga,jc,lh,kA,mr,nP⟩:=aA;have aV:=ck.i.r;have VC:=B0 (key:=key) ck.ok aV;have hL:=Cp aV;have uF:(false,l,aE.er,aE.cU,bf)=(ks,aG,bz,cU,rT)->EW key aI b eR aG {aE with er:=bz,cU:=cU} rT/\((ks=true/\∃mC,mC<t/\nD key cb aI b eR aG {aE with er:=bz,cU:=cU} rT e mC)\/(ks=false/\aG=l/\bz=aE.er/\cU=aE.cU/\rT=bf)):=by intro h;cases h;exact⟨⟨db,cp,ga,jc,lh,kA,mr,nP⟩,.inr ⟨rfl,rfl,rfl,rfl,rfl⟩⟩
 cases h with
 | head ad af ax aO bl bL cn dA=>
  rw[cn,bL,ag4 db (by omega) (by grind) ga]at U;have br:l.jn=(0,2304):=by simp_all[dV.jn]
  rw[br]at U;rcases ag2 (i:=-1) kA (aAx ck) (ag0 ck) (ag1 (ag0 ck) (.inl rfl)) (agZ ck)with⟨bX,b7⟩|⟨bX,b7,g3⟩
  ·rw[bX,if_neg (by decide),if_pos rfl,ag5 (by omega)]at U;cases U;refine⟨⟨db,cp,ga,jc,lh,Ml kA,mr,by simp⟩,.inl ⟨rfl,_,?_,.head ad af ax aO bl rfl rfl (by grind)⟩⟩
   grind[Mm]
  ·rw[if_pos bX]at U;cases U;rw[Ta ad,bl];refine⟨⟨db,cp,ga,jc,lh,Ml kA,mr,by grind⟩,.inl ⟨rfl,_,?_,.pt _ ad af ax aO rfl rfl rfl b7 (Nat.le_trans g3 dA)⟩⟩
   simp_all
 | pt bs ad af ax aO bl bL cn dA fo=>simp_all[TM]
 | jG ad af ax aO bl bL cn dA=>
  rw[cn,TL db]at U;cases U;have HP:l.rS (-1)=true:=by grind[agi]
  have he:l.follow (.il (-1))={l with left:=l.left-1,eo:=-1}:=by unfold dV.follow;grind
  rw[he];refine⟨⟨db,cp,ga,jc,lh,kA,mr,nP⟩,.inl ⟨rfl,_,?_,.head ad af ax aO rfl bL rfl (by grind)⟩⟩
  simp_all
 | good ad af ax aO bl bL cn dA=>
  rw[bL,TL db]at U;cases U;have he:l.follow (.nk cb aI)={l with dc:=some (cb,aI),eo:=0}:=by
   unfold dV.follow;simp only;rw[if_neg];rw[ad,ck.cb]
   grind
  rw[he];have aR:mA aI b (aI.aE/64).toNat 0=0:=by unfold mA;grind
  have e:(1:Nat)=1+0+if aE.cZ then 1 else 0:=by grind
  refine⟨⟨db,cp,ga,jc,lh,kA,mr,nP⟩,.inl ⟨rfl,2*(aI.a1.length-0)+aE.er.length+(if aE.cZ then 0 else 1)+l.left*(2*eR+3),?_,?_⟩⟩
  ·grind
  ·have hh:nD key cb aI b eR {l with dc:=some (cb,aI),eo:=0} {aE with cU:=[]} bf (1+0+if aE.cZ then 1 else 0) (2*(aI.a1.length-0)+aE.er.length+(if aE.cZ then 0 else 1)+l.left*(2*eR+3)):=.on (l:={l with dc:=some (cb,aI),eo:=0}) (aE:={aE with cU:=[]}) [] 0 0 [] [] rfl cn af (by rw[aR];simp) (Nat.le_refl 0) (Nat.zero_le _) rfl (by show(0:Int)=oV aI 0;unfold oV;omega) bl (by rfl) (by simp) (fun _=>rfl) (fun h=>by grind) (by simp) (by show bf.bR.length+0<=l.left;omega);rw[<- e]at hh;exact hh
 | il aj w ad af ax aO bl bL cn dA fo=>
  rw[cn,TL db]at U;cases U;have HP:l.rS w=true:=by rw[agj ad];simp_all
  have he:l.follow (.il w)={l with left:=l.left-1,eo:=w}:=by unfold dV.follow;grind
  rw[he];have e:1+w=1+w+if aE.cZ then 1 else 0:=by grind
  refine⟨⟨db,cp,ga,jc,lh,kA,mr,nP⟩,.inl ⟨rfl,2*(aI.a1.length-w)+aE.er.length+(if aE.cZ then 0 else 1)+(l.left-1)*(2*eR+3),?_,?_⟩⟩
  ·grind
  ·rw[e];exact .on (l:={l with left:=l.left-1,eo:=w}) (aE:={aE with cU:=[]}) aj w w aE.er [] ad af ax aO (Nat.le_refl w) (by omega) rfl (by show(w:Int)=oV aI w;unfold oV;omega) (by grind) (by rw[HO];rfl) dA (fun h=>by omega) (fun h=>by grind) (by simp) (by show bf.bR.length+0<=l.left-1;omega)
 | on aj w k D gk ad af ax aO bl bL cn dA fo hS ke pj vZ uT nN=>
  by_cases ag:k=aI.a1.length
  ·simp_all[TM,oV]
  by_cases hf:aE.er.length=aE.bN
  ·simp_all[TM]
  have kF:k<aI.a1.length:=by omega
  have TE:l.eo=k:=by simp_all[oV]
  rw[cn,ag4 db (by omega) hf ga]at U;have br:l.jn=(cb+(gw aI k).1,(gw aI k).2):=by unfold dV.jn;grind
  rw[br]at U;have qO:qA key cb aI b ((k:Int),re aI b k):=by unfold qA;rw[if_neg (by omega)]
  have aAz:gk.length=k-w:=by
   have:=congrArg List.length hS
   grind[Mk]
  rcases ag2 (i:=(k:Int)) kA (aAy ck kF) qO (ag1 qO (.inr (TK ck.i kF))) (aAw ck kF)with⟨bX,b7⟩|⟨bX,b7,g3⟩
  ·rw[bX,if_neg (by decide),if_pos rfl,ag5 (by omega)]at U;cases U;refine⟨⟨db,cp,ga,jc,lh,Ml kA,mr,nP⟩,.inl ⟨rfl,2*(aI.a1.length-k)+aE.er.length+(if aE.cZ then 0 else 1)+(l.left-1)*(2*eR+3),?_,?_⟩⟩
   ·grind[Mm]
   ·exact .on (l:={l with left:=l.left-1}) (aE:={aE with cU:=[]}) aj w k D gk ad af ax aO bl bL rfl dA fo hS ke pj vZ uT (by grind)
  ·rw[if_pos bX]at U;cases U;have aAA:l.on={l with eo:=oV aI (k+1)}:=by
    rw[Tb ad,TE];unfold oV
    grind
   rw[aAA,TE];refine⟨⟨db,cp,ga,jc,lh,Ml kA,mr,by grind⟩,.inl ⟨rfl,2*(aI.a1.length-(k+1))+(aE.er++[((k:Int),(pX (nX key aI b) (cb+(gw aI k).1) (gw aI k).2 bf.next.1).1)]).length+(if aE.cZ then 0 else 1)+l.left*(2*eR+3),?_,?_⟩⟩
   ·grind
   ·refine .on (l:={l with eo:=oV aI (k+1)}) (aE:={aE with cU:=[],er:=aE.er++[((k:Int),(pX (nX key aI b) (cb+(gw aI k).1) (gw aI k).2 bf.next.1).1)]}) aj w (k+1) D (gk++[((k:Int),(pX (nX key aI b) (cb+(gw aI k).1) (gw aI k).2 bf.next.1).1)]) ad af ax aO (by omega) kF rfl rfl ?_ ?_ ke pj vZ ?_ ?_
    ·simp_all
    ·simp_all[agQ]
    ·grind
    grind[aAu]
end V
end J
namespace J
open Go Go.Ab
namespace V
variable{key b bs aj:List Int}{n k y e t j aa w eR:Nat}{cb:Int}{aI:df}{l:dV}{aE Cs:eL}{bf:hC}{D gk:List (Int×List Int)}{q:Int×List Int}{cU:List jl}
theorem aAB(ja:yz aI b aa n)(aM:w<aI.a1.length):b.take (64*mA aI b aa w)++re aI b w=b.take (64*mA aI b aa (w+1)):=by
 obtain⟨l,ad,af,ax,aO,bl,bL⟩:=EU ja aM;have hh:mA aI b aa w=w*aa:=by unfold mA;grind
 rw[bL,hh,<- bl,<- List.take_add]
 grind[hM,List.take_of_length_le]
theorem aAC(ja:yz aI b aa n):b.take (64*mA aI b aa aI.a1.length)=b:=by
 unfold mA;rw[if_pos rfl]
 grind[List.take_of_length_le,hM]
theorem aAD(ja:yz aI b aa n):(aI.aE/64).toNat=aa:=by have:=ja.C;omega
theorem Mn(ad:aE.bu=0)(af:aE.cZ=false)(ax:aE.aw=none):aE.step=(match aE.er with|[]=>(false,aE)|p::r=>if aE.cU.length=aE.bN\/aE.e7.length=aE.gH then(false,aE)else(true,if p.1=-1 then(aE.oO r).zU p.2 else aE.oO r)):=by
 unfold eL.step
 grind
theorem TN(ad:aE.bu=0)(af:aE.cZ=false)(ax:aE.aw=some (aj,w))(aM:w≠aE.aW.a1.length):aE.step=(match aE.er with|[]=>(false,aE)|p::r=>if aE.cU.length=aE.bN\/aE.e7.length=aE.gH then(false,aE)else(true,if p.1=w then(aE.oO r).gR aj w p.2 else aE.oO r)):=by
 unfold eL.step
 grind
theorem aAE(ad:aE.bu=0)(af:aE.cZ=false)(ax:aE.aw=some (aj,w))(aM:w=aE.aW.a1.length):aE.step=aE.lB aj:=by simp_all[eL.step]
theorem nD.looks(ck:rX key cb aI b aa n)(ag:∀j,j<aI.a1.length->gB (re aI b j)=aI.a1.getD j [])(aJ:1<=eR)(aA:EW key aI b eR l aE bf)(h:nD key cb aI b eR l aE bf e t):
  aE.step=(false,aE)\/∃Cs qb mC,aE.step=(true,Cs)/\EW key aI b eR l Cs bf/\nD key cb aI b eR l Cs bf qb mC/\mC<t/\((qb=e/\Cs.e7=aE.e7)\/(qb=e+1/\e<aI.a1.length+2/\Cs.e7=aE.e7++[uV cb aI b e])):=by
 obtain⟨db,cp,ga,jc,lh,kA,mr,nP⟩:=aA;have aV:=ck.i.r;have hL:=Cp aV;have mq:=aAD ck.i;cases h with
 | head ad af ax aO bl bL cn dA=>simp_all[Mn]
 | jG ad af ax aO bl bL cn dA=>simp_all[Mn]
 | pt bs ad af ax aO bl bL cn dA fo=>
  by_cases hf:aE.cU.length=aE.bN\/aE.e7.length=aE.gH
  ·simp_all[Mn]
  right;have bn:aE.step=(true,(aE.oO []).zU bs):=by simp_all[Mn]
  rw[bn,agT,jc];by_cases an:(eN key bs).2.2≠0
  ·rw[if_pos an];have k2:nC key aI (-1,bs):=by unfold nC;rw[if_pos rfl];exact an
   rw[if_pos k2]at fo;refine⟨_,0,_,rfl,⟨db,cp,ga,rfl,lh,kA,mr,by simp⟩,.jG ad af ax aO bl rfl (by simp_all) fo,?_,.inl ⟨rfl,rfl⟩⟩;have:=Mm (x:=l.left) (y:=2*eR+3) (by omega);omega
  ·rw[if_neg an];have bJ:eN key bs=(aI,cb,0):=by simp_all[qA,nC]
   rw[bJ];simp only;rw[if_neg (by omega)];refine⟨_,1,_,rfl,⟨db,cp,ga,rfl,lh,kA,mr,by simp⟩,.good ad rfl aO bl rfl (by simp_all) rfl (by omega),by omega,.inr ⟨rfl,by omega,rfl⟩⟩
 | good ad af ax aO bl bL cn dA=>grind[TN]
 | il aj w ad af ax aO bl bL cn dA fo=>
  have aw:=TN cp bL ax (by grind);cases br:aE.er with
  | nil=>simp_all
  | cons p r=>
   by_cases hf:aE.cU.length=aE.bN\/aE.e7.length=aE.gH
   ·simp_all
   right;have bM:p.1≠w:=dA p (by simp_all);rw[br]at nP dA;refine⟨aE.oO r,1+w,2*(aI.a1.length-w)+r.length+2+(l.left-1)*(2*eR+3),by simp_all,⟨db,cp,ga,jc,lh,kA,mr,?_⟩,.il (aE:=aE.oO r) aj w ad af ax aO bl bL cn (fun q b5=>dA q (List.mem_cons_of_mem _ b5)) fo,?_,.inl ⟨rfl,rfl⟩⟩
   ·show r.length<=eR
    grind
   simp_all
 | on aj w k D gk ad af ax aO bl bL cn dA fo hS ke pj vZ uT nN=>
  have aAF:aE.cZ=true\/aE.cZ=false:=by simp_all
  rcases aAF with wW|wW
  ·simp_all[eL.step]
  rw[mq]at aO;by_cases aM:w=aI.a1.length
  ·-- the end
   have aw:=aAE cp wW ax (by simp_all);by_cases hf:aE.e7.length=aE.gH
   ·simp_all[eL.lB]
   right;have aAG:aj=b:=by rw[aO,aM];exact aAC ck.i
   have k9:D=[]:=pj aM;have aCS:k=w:=by omega
   have aCT:gk=[]:=by
    have:=congrArg List.length hS
    grind[Mk]
   have aCU:gB aj=aE.aW.cq:=by rw[aAG,af,ck.i.cq]
   have hh:nD key cb aI b eR l {aE with e7:=aE.e7++[.eC],cZ:=true} bf (1+w+if true=true then 1 else 0) (2*(aI.a1.length-k)+aE.er.length+(if true=true then 0 else 1)+l.left*(2*eR+3)):=
    .on (aE:={aE with e7:=aE.e7++[.eC],cZ:=true}) aj w k D gk ad af ax (by grind) bl bL cn dA fo hS ke pj (fun _=>aM) uT nN
   refine⟨{aE with e7:=aE.e7++[.eC],cZ:=true},_,_,by rw[aw];unfold eL.lB;grind,⟨db,cp,ga,jc,lh,kA,mr,nP⟩,hh,?_,.inr ⟨?_,?_,?_⟩⟩
   ·grind
   ·grind
   ·grind
   ·show aE.e7++[.eC]=_;have:uV cb aI b (1+w+if aE.cZ=true then 1 else 0)=.eC:=by
     rw[wW];unfold uV
     grind
    rw[this]
  ·have vL:w<aI.a1.length:=by omega
   have aw:=TN cp wW ax (by simp_all);cases br:aE.er with
   | nil=>simp_all
   | cons p r=>
    by_cases hf:aE.cU.length=aE.bN\/aE.e7.length=aE.gH
    ·grind
    right;have fT:aE.step=(true,if p.1=w then(aE.oO r).gR aj w p.2 else aE.oO r):=by grind
    have th:=nP;rw[br]at nP;rw[List.length_cons]at nP;have hlen:aE.er.length=r.length+1:=by grind
    rw[fo]at br;cases D with
    | cons d MX=>
     injection br with bn bF
     have bM:p.1≠w:=by simp_all
     rw[if_neg bM]at fT;refine⟨aE.oO r,_,2*(aI.a1.length-k)+r.length+(if aE.cZ then 0 else 1)+l.left*(2*eR+3),fT,⟨db,cp,ga,jc,lh,kA,mr,by show r.length<=eR;omega⟩,.on (aE:=aE.oO r) aj w k MX gk ad af ax (by simp_all) bl bL cn dA bF.symm hS (fun q b5=>ke q (List.mem_cons_of_mem _ b5)) (fun h=>absurd h aM) vZ uT nN,?_,.inl ⟨rfl,rfl⟩⟩
     simp_all
    | nil=>
     rw[List.nil_append]at br;have TF:w<k:=by grind[HO]
     rw[br,List.map_cons,agP TF]at hS;injection hS with bn bF
     rw[if_pos bn,agU]at fT;have aAz:r.length=k-(w+1):=by
      have:=congrArg List.length bF
      grind[Mk]
     rw[br]at uT nN;rw[aAv]at nN;have aCV:=uT p List.mem_cons_self;obtain⟨aCW,dU⟩:=p;simp only at bn fT;subst bn;by_cases k2:nC key aI ((w:Int),dU)
     ·-- Av is short
      rw[if_pos k2]at nN;have aAH:¬((dU.length:Int)=(gw aI w).2):=by simp_all[nC]
      rw[if_neg (fun h=>aAH (by simp_all))]at fT;refine⟨_,1+w,2*(aI.a1.length-w)+r.length+2+(l.left-1)*(2*eR+3),fT,⟨db,cp,ga,jc,lh,kA,mr,by grind⟩,.il (bf:=bf) (aE:={aE with er:=r,cU:=aE.cU++[.il w]}) aj w ad af ax (by simp_all) vL wW (by simp_all) (fun q b5=>?_) (by omega),?_,.inl ⟨?_,rfl⟩⟩
      ·grind[agR,List.mem_map_of_mem]
      ·have:=Mm (x:=l.left) (y:=2*eR+3) (by omega)
       grind
      simp_all
     ·rw[if_neg k2]at nN;have Lh:dU=re aI b w:=by simp_all[qA]
      have Uv:((dU.length:Nat):Int)=(gw aE.aW w).2/\gB dU=aE.aW.a1.getD w []:=by rw[af,Lh];exact⟨TK ck.i vL,ag w vL⟩
      rw[if_pos Uv]at fT;refine⟨_,1+(w+1)+if aE.cZ then 1 else 0,2*(aI.a1.length-k)+r.length+(if aE.cZ then 0 else 1)+l.left*(2*eR+3),fT,⟨db,cp,ga,jc,lh,kA,mr,by grind⟩,.on (aE:={aE with er:=r,e7:=aE.e7++[.body w dU],aw:=some (aj++dU,w+1)}) (aj++dU) (w+1) k [] r ad af rfl (by rw[mq,aO,Lh];exact aAB ck.i vL) (by omega) bL cn dA rfl bF (by simp) (fun _=>rfl) (fun h=>by simp_all) (fun q b5=>uT q (List.mem_cons_of_mem _ b5)) nN,?_,.inr ⟨by omega,?_,?_⟩⟩
      ·simp_all
      ·grind
      ·show aE.e7++_=_;have:uV cb aI b (1+w+if aE.cZ=true then 1 else 0)=.body w dU:=by
        rw[wW];unfold uV
        grind
       rw[this]
end V
end J
namespace J
open Go Go.Ab
namespace V
variable{key b bs aj:List Int}{n k e c t j aa w eR T N:Nat}{cb a aF dW:Int}{aI:df}{p:dY}{g:Nat->List Int}
structure p1 (key:List Int) (cb:Int) (aI:df) (b:List Int) (aa n:Nat) (aF:Int) (g:Nat->List Int) (eR:Nat) (p:dY) (T:Nat):Prop where
 st:p.st=1
 hs:p.hs=0
 nY:EW key aI b eR p.l p.c p.bf
 run:∃e c nn xd,nD key cb aI b eR p.l p.c p.bf e nn/\sR n aF g aI b aa p.w c xd/\p.c.e7=((rf cb aI b).take e).drop c/\c<=e/\e<=aI.a1.length+2/\T=nn+xd
 gH:p.c.gH=eR
 dx:p.w.dx≠4
 jg:p.d.fB=0
 kT:p.d.e5=[0,0,0]
 l6:1<=p.d.mb
structure CH (aI:df) (b:List Int) (n:Nat) (aF:Int) (p:dY):Prop where
 st:p.st=2
 hs:p.hs=0
 aW:p.c.aW=aI
 aw:p.c.aw.isSome=true
 wr:p.w.wr=hM b.length
 cZ:p.w.m.d.done=[]
 all:p.w.m.all (1+aF)=(List.range n).flatMap (tB b (hM b.length))
theorem aAI{l:dV}{aE:eL}{bf:hC}(h:nD key cb aI b eR l aE bf e t)(he:2<=e):aE.aW=aI/\aE.aw.isSome=true:=by
 cases h with
 | head=>omega
 | pt=>omega
 | jG=>omega
 | good=>omega
 | il aj w ad af ax=>simp_all
 | on aj w k D gk ad af ax=>simp_all
theorem aAJ{l:dV}{aE:eL}{bf:hC}(h:nD key cb aI b eR l aE bf e t)(aJ:aE.cZ=true):e=aI.a1.length+2:=by
 cases h with
 | head ad af ax aO=>simp_all
 | pt bs ad af ax aO=>simp_all
 | jG ad af ax aO=>simp_all
 | good ad af ax=>simp_all
 | il aj w ad af ax aO bl bL=>simp_all
 | on aj w k D gk ad af ax aO bl bL cn dA fo hS ke pj vZ=>grind
theorem nD.e7{l:dV}{aE:eL}{bf:hC}{o:List jl}(h:nD key cb aI b eR l aE bf e t)(bJ:o=((rf cb aI b).take e).drop c):nD key cb aI b eR l {aE with e7:=o} bf e t:=by
 cases h with
 | head ad af ax aO bl bL cn dA=>exact .head ad af (by simp_all) aO bl bL cn dA
 | pt bs ad af ax aO bl bL cn dA fo=>exact .pt bs ad af (by simp_all) aO bl bL cn dA fo
 | jG ad af ax aO bl bL cn dA=>exact .jG ad af (by simp_all) aO bl bL cn dA
 | good ad af ax aO bl bL cn dA=>exact .good ad af ax aO bl bL cn dA
 | il aj w ad af ax aO bl bL cn dA fo=>exact .il (aE:={aE with e7:=o}) aj w ad af ax aO bl bL cn dA fo
 | on aj w k D gk ad af ax aO bl bL cn dA fo hS ke pj vZ uT nN=>exact .on (aE:={aE with e7:=o}) aj w k D gk ad af ax aO bl bL cn dA fo hS ke pj vZ uT nN
theorem TO{d:uR}{i:Nat}(ad:d.fB=0)(af:d.e5=[0,0,0]):(d.zZ i).e5=[0,0,0]:=by
 unfold uR.zZ;simp only;rw[ad,af]
 match i with
 | 0=>rfl
 | 1=>rfl
 | 2=>rfl
 | i+3=>rfl
theorem TP{i:Nat}{qb:Int}(he:qb=(0:Int)):p.ks i false qb false=(false,p):=by subst he;rfl
theorem TQ{i:Nat}{qb:Int}(he:qb=(0:Int)):p.ks i true qb false=(true,{p with d:=p.d.zZ i}):=by subst he;rfl
theorem aAK{i:Nat}{qb:Int}(he:qb=(0:Int)):p.ks i true qb true=(true,({p with d:=p.d.zZ i}:dY).lB 2 0):=by subst he;rfl
theorem ag6(h:p.st=1):p.step 0=p.Hx:=by simp_all[dY.step]
theorem aAL(h:p.st=1):p.step 1=p.hU:=by simp_all[dY.step]
theorem aAM(h:p.st=1):p.step 2=p.z1:=by simp_all[dY.step]
theorem aAN(h:p.st≠1):p.step dW=(false,p):=by simp_all[dY.step]
theorem p1.Hx(ck:rX key cb aI b aa n)(aJ:1<=eR)(h:p1 key cb aI b aa n aF g eR p T):
  ((p.step 0).2=p/\(iC p.c.bN p.l p.c.er p.c.cU p.bf).1=false)\/∃dw,dw<T/\p1 key cb aI b aa n aF g eR (p.step 0).2 dw:=by
 obtain⟨e,c,nn,xd,ad,af,ax,aO,bl,bL⟩:=h.run;rw[ag6 h.st,Tf];unfold dY.z8;generalize U:iC p.c.bN p.l p.c.er p.c.cU p.bf=r;obtain⟨ks,aG,bz,cU,rT⟩:=r;obtain⟨bP,ca⟩:=ad.agS ck aJ h.nY U;simp only;rcases ca with⟨rfl,mC,dH,eG⟩|⟨rfl,rfl,rfl,rfl,rfl⟩
 ·right;rw[TQ bP.ek];exact⟨mC+xd,by omega,h.st,h.hs,bP,⟨e,c,mC,xd,eG,af,ax,aO,bl,rfl⟩,h.gH,h.dx,h.jg,TO h.jg h.kT,h.l6⟩
 ·left;rw[TP bP.ek]
  grind
theorem aAO{c:eL}:c.step.2.gH=c.gH:=by
 unfold eL.step;split
 ·rfl
 ·split
  ·split
   ·grind[eL.lB]
   ·split
    ·rfl
    ·split
     ·rfl
     ·simp only;split
      ·unfold eL.gR;split<;>rfl
      ·rfl
  ·split
   ·rfl
   ·split
    ·rfl
    ·simp only;split
     ·unfold eL.zU;split
      ·rfl
      ·split<;>rfl
     ·rfl
theorem p1.hU(ck:rX key cb aI b aa n)(ag:∀j,j<aI.a1.length->gB (re aI b j)=aI.a1.getD j [])(aJ:1<=eR)(h:p1 key cb aI b aa n aF g eR p T):
  ((p.step 1).2=p/\p.c.step.1=false)\/∃dw,dw<T/\p1 key cb aI b aa n aF g eR (p.step 1).2 dw:=by
 obtain⟨e,c,nn,xd,ad,af,ax,aO,bl,bL⟩:=h.run;rw[aAL h.st,agr];have Fz:=aAO (c:=p.c);rcases ad.looks ck ag aJ h.nY with aw|⟨Cs,qb,mC,aw,bP,ca,dH,eG⟩
 ·left;unfold dY.HD;rw[aw,TP h.nY.DW]
  simp_all
 ·right;unfold dY.HD;rw[aw]at Fz⊢;rw[TQ bP.DW];refine⟨mC+xd,by omega,h.st,h.hs,bP,?_,Fz.trans h.gH,h.dx,h.jg,TO h.jg h.kT,h.l6⟩
  grind[aAo]
theorem p1.z1(ck:rX key cb aI b aa n)(h:p1 key cb aI b aa n aF g eR p T):
  (p.rw.1=false/\p1 key cb aI b aa n aF g eR (p.step 2).2 T)\/(∃dw,dw<T/\p1 key cb aI b aa n aF g eR (p.step 2).2 dw)\/CH aI b n aF (p.step 2).2:=by
 obtain⟨e,c,nn,xd,ad,af,ax,aO,bl,bL⟩:=h.run;rw[aAM h.st,ags];have hL:=Cp ck.i.r;rcases(af.vV p.c.e7).step ck.i (cb:=cb) (e:=e) ax bl aO with⟨bP,ca⟩|⟨aL,cC,mC,bP,ca,dH,eG,ya,G7⟩
 ·left;have bn:p.rw=(false,{p.w with q:=p.c.e7}):=bP;unfold dY.EP;rw[bn];have yo:decide (({p.w with q:=p.c.e7}:bU).dx=4)=false:=decide_eq_false h.dx;simp only;rw[yo,TP af.TH];exact⟨trivial,h.st,h.hs,⟨h.nY.ek,h.nY.DW,h.nY.fs,h.nY.ag3,h.nY.Nx,h.nY.bR,h.nY.bN,h.nY.sJ⟩,⟨e,c,nn,xd,ad,af.vV _,ax,aO,bl,bL⟩,h.gH,h.dx,h.jg,h.kT,h.l6⟩
 ·right;have bn:p.rw=(true,aL):=bP;unfold dY.EP;rw[bn];simp only;by_cases yo:aL.dx=4
  ·right;rw[decide_eq_true yo,aAK ca.TH];have he:e=aI.a1.length+2:=by
    cases ca with
    | Cq f _ _ h=>omega
    | mu f e _ _ h=>omega
    | fill j _ _ h=>omega
    | mz _ _ h=>omega
    | done=>omega
   obtain⟨bX,b7⟩:=aAI ad (by omega);cases ca with
   | Cq f _ _ h=>omega
   | mu f e _ _ h=>omega
   | fill j _ _ h=>omega
   | mz _ _ h=>omega
   | done bQ cE ff wA DQ=>exact⟨rfl,rfl,bX,b7,wA,DQ,bQ.all⟩
  ·left;rw[decide_eq_false yo,TQ ca.TH];refine⟨nn+mC,by omega,h.st,h.hs,⟨h.nY.ek,h.nY.DW,h.nY.fs,h.nY.ag3,h.nY.Nx,h.nY.bR,h.nY.bN,h.nY.sJ⟩,⟨e,cC,nn,mC,ad.e7 eG,ca,eG,G7,bl,rfl⟩,h.gH,yo,h.jg,TO h.jg h.kT,h.l6⟩
theorem p1.TG(ck:rX key cb aI b aa n)(aJ:1<=eR)(h:p1 key cb aI b aa n aF g eR p T)(aD:(iC p.c.bN p.l p.c.er p.c.cU p.bf).1=false)(aA:p.c.step.1=false)(aM:p.rw.1=false):False:=by
 obtain⟨e,c,nn,xd,ad,af,ax,aO,bl,bL⟩:=h.run;have hL:=Cp ck.i.r;have wr:(c=e/\c≠aI.a1.length+2)\/False:=by
  rcases(af.vV p.c.e7).step ck.i (cb:=cb) (e:=e) ax bl aO with⟨bP,ca⟩|⟨aL,cC,mC,bP,_⟩
  ·left;have dH:c=e:=by
    rcases ca with a7|a7
    ·exact a7
    ·exact absurd a7 h.dx
   refine⟨dH,fun wt=>?_⟩;have aw:=h.dx;cases af with
   | Cq f=>omega
   | mu f e=>omega
   | fill j _ _ _ _ _ bL=>omega
   | mz bQ cE ff wA DQ=>
    have:({p.w with q:=p.c.e7}:bU).step=(true,({p.w with q:=p.c.e7}:bU).mz):=L2 cE ff;rw[bP]at this;injection this with this _
    cases this
   | done bQ cE ff=>exact aw ff
  ·have:p.rw=(true,aL):=bP;rw[this]at aM;cases aM
 rcases wr with⟨aAP,aCX⟩|a7
 ·have TA:p.c.e7=[]:=by rw[ax,aAP];exact List.drop_of_length_le (by rw[List.length_take];omega)
  rcases(ad.Sz ck.i.r).TG (bf:=p.bf) (by rw[h.nY.bN];omega) h.nY.ek h.nY.DW with q|q|q|q
  ·rw[aD]at q;cases q
  ·rw[aA]at q;cases q
  ·rw[TA,h.gH]at q;have q:(0:Nat)=eR:=q;omega
  ·have:=aAJ ad q;omega
 ·exact a7
theorem p1.round(ck:rX key cb aI b aa n)(ag:∀j,j<aI.a1.length->gB (re aI b j)=aI.a1.getD j [])(aJ:1<=eR)(h:p1 key cb aI b aa n aF g eR p T):
  (∃dw,dw<T/\p1 key cb aI b aa n aF g eR (((p.step 0).2.step 1).2.step 2).2 dw)\/CH aI b n aF (((p.step 0).2.step 1).2.step 2).2:=by
 rcases h.Hx ck aJ with⟨dm,da⟩|⟨ft,dm,da⟩
 ·rw[dm];rcases h.hU ck ag aJ with⟨fj,fl⟩|⟨OW,fj,fl⟩
  ·rw[fj];rcases h.z1 ck with⟨db,cp⟩|c|c
   ·exact(h.TG ck aJ da fl db).elim
   ·grind
   simp_all
  ·rcases fl.z1 ck with⟨db,cp⟩|⟨OA,db,cp⟩|c
   ·grind
   ·grind
   simp_all
 ·rcases da.hU ck ag aJ with⟨fj,fl⟩|⟨OW,fj,fl⟩
  ·rw[fj];rcases da.z1 ck with⟨db,cp⟩|⟨OA,db,cp⟩|c
   ·grind
   ·grind
   simp_all
  ·rcases fl.z1 ck with⟨db,cp⟩|⟨OA,db,cp⟩|c
   ·grind
   ·grind
   simp_all
def rY:Nat->Nat->dY->dY
 | _,0,p=>p
 | k,N+1,p=>if p.st=1 then rY (k+1) N (p.step ((k%3:Nat):Int)).2 else p
theorem TR(h:p.st≠1):∀N k,rY k N p=p
 | 0,_=>rfl
 | N+1,k=>by simp_all[rY]
theorem ag7(h:p.st=1):rY k (N+1) p=rY (k+1) N (p.step ((k%3:Nat):Int)).2:=by show(if p.st=1 then _ else _)=_;grind
theorem aAQ:rY k (N+1) p=rY (k+1) N (p.step ((k%3:Nat):Int)).2:=by grind[ag7,TR,aAN]
theorem aAR:rY (3*j) (N+3) p=rY (3*(j+1)) N (((p.step 0).2.step 1).2.step 2).2:=by grind[aAQ]
theorem p1.done(ck:rX key cb aI b aa n)(ag:∀j,j<aI.a1.length->gB (re aI b j)=aI.a1.getD j [])(aJ:1<=eR):∀(T j N:Nat) {p:dY},p1 key cb aI b aa n aF g eR p T->3*T+3<=N->CH aI b n aF (rY (3*j) N p):=by
 intro T;induction T using Nat.strongRecOn with
 | ind T bd=>
  intro j N p h ny;obtain⟨e0,rfl⟩:∃e0,N=e0+3:=⟨N-3,by omega⟩;rw[aAR];rcases h.round ck ag aJ with⟨dw,dm,da⟩|a
  ·exact bd dw dm (j+1) e0 da (by omega)
  ·rw[TR (by rw[a.st];decide)];exact a
end V
end J
namespace J
open Go Go.Ab
namespace V
variable{key b s:List Int}{n e j aa w T uX:Nat}{cb a aF ix l0 bh:Int}{aI:df}{g:Nat->List Int}{d:bO}{m:bt}{c7:eF}
structure p2 (d:bO) (uX:Nat) (ix:Int):Prop where
 h9:d.fK=false
 jf:d.gv=-1
 gQ:d.gQ=ix
 len:d.cells.length=uX
 wr:∀j,wr d j<=0
theorem p2.eS(h:p2 d uX ix):p2 (d.eS a s).1 uX ix:=by
 unfold bO.eS;split
 ·exact h
 split
 ·exact h
 split
 ·exact h
 have aw:d.step.fK=false:=SK h.h9 (by rw[h.jf];decide);rw[if_neg (by simp_all)];refine⟨aw,(LY (by rw[h.jf];decide)).trans h.jf,h.gQ,?_,fun j=>?_⟩
 ·show(d.cells.set _ _).length=uX;rw[List.length_set];exact h.len
 ·have aR:=h.wr j;unfold J.wr at aR⊢;show(((d.cells.set a.toNat {d.cell a with e5:=s}).getD j ij).jz:Int)<=0;by_cases aD:a.toNat<d.cells.length
  ·rw[SJ aD];split
   ·rename_i e;subst e;exact aR
   omega
  grind
theorem p2.prog(h:p2 m.d uX ix):p2 (m.eS l0 bh s).1.d uX ix:=by
 unfold bt.eS;split
 ·exact h
 ·show p2 (bt.pM _ _ _).d uX ix;rw[bt.yc];exact h.eS
theorem p2.ag8:∀(gU:List Int) {m:bt},p2 m.d uX ix->p2 (oT m gU).d uX ix
 | [],m,h=>h
 | x::r,m,h=>p2.ag8 r (m:=HG m x) h.prog
theorem aAS{ar:List Cell}{z:Nat×List Int}{j:Nat}:((tn ar z).getD j ij).jz=(ar.getD j ij).jz:=by grind[tn]
theorem ag9:∀(l:List (Nat×List Int)) (ar:List Cell) (j:Nat),((jP ar l).getD j ij).jz=(ar.getD j ij).jz
 | [],_,_=>rfl
 | z::l,ar,j=>(ag9 l (tn ar z) j).trans aAS
theorem p2.iS(h:p2 d uX ix):p2 d.iS.1 uX ix:=by have aw:=(SR h.h9 h.jf).2;refine⟨aw.h9,aw.jf,aw.gQ.trans h.gQ,aw.len.trans h.len,fun j=>?_⟩;rw[afQ h.h9 h.jf];unfold J.wr;show(((jP d.cells d.done).getD j ij).jz:Int)<=0;rw[ag9];exact h.wr j
theorem Na:p2 (bO.cN 60 ix) 60 ix:=by refine⟨rfl,rfl,rfl,List.length_replicate,fun j=>?_⟩;show(((List.replicate 60 tp).getD j ij).jz:Int)<=0;rw[List.getD_eq_getElem?_getD,List.getElem?_replicate];split<;>exact Int.le_refl 0
theorem aAT(aM:c7.tF=100):p2 (ps c7).d 60 100:=by
 have aR:p2 (oT ⟨bO.cN 60 ((max 0 (min c7.tF 100000)).toNat:Int),l8 0 [1,c7.qx.toNat,c7.qx.toNat],0,[]⟩ c7.gU).d 60 100:=by refine p2.ag8 c7.gU ?_;rw[aM];exact Na
 exact aR.iS
theorem aha(ahb:1<=c7.cj.ka)(xx:mR c7.cj.aF):tG.gR c7.cj.ka c7.cj.aF=(1,0,⟨c7.cj.ka,c7.cj.aF,1,1,1,2⟩):=by unfold gK.gR;rw[if_neg (by omega),if_neg (by decide)];rfl
theorem aAU(ck:rX c7.hN.key cb aI b aa n)(WR:c7.qx=n)(aX:1<=n)(yP:c7.tF=100)(ahb:1<=c7.cj.ka)(xx:mR c7.cj.aF)(aAV:w3 (Hw c7.off) (mx c7.cj.fs)=some (nX c7.hN.key aI b))
  (Nn:oN aI ⟨c7.hN.cz,c7.cj.c6,64*(n:Int)⟩=0) (vX:EV c7.bR) (kP:c7.bR.length<=(max 0 (min c7.hN.yw 100)).toNat):
  ∃g T,p1 c7.hN.key cb aI b aa n c7.cj.aF g (e6 c7.hN.gq) (nB c7) T/\T<=2*aI.a1.length+4+(max 0 (min c7.hN.yw 100)).toNat*(2*e6 c7.hN.gq+3)+(n+hM b.length+aI.a1.length+4):=by
 have bD:=aAT yP;have x4:=aha ahb xx;have wI:=agC c7;have aAs:=ck.i.agV;have aAW:c7.qx.toNat=n:=by omega
 rw[aAW]at wI;have af:h8 (ps c7) n n:=⟨⟨[],wI⟩,by rw[bD.len];omega⟩;have U:e2 (nB c7).w n c7.cj.aF (fun i=>ej (ps c7).d (off n c7.cj.aF+i)) (fun i=>ej (ps c7).d (off n (1-c7.cj.aF)+i)):=by unfold nB;rw[x4];exact⟨⟨Nat.one_ne_zero,rfl⟩,rfl,rfl,rfl,rfl,xx,af,bD.h9,bD.jf,bD.gQ,fun i _=>rfl,fun i _=>rfl⟩
 have Io:(ps c7).size ((tG.gR c7.cj.ka c7.cj.aF).2.2.part c7.cj.aF)=n:=by have:=U.size;unfold bU.size at this;exact this
 refine⟨fun i=>ej (ps c7).d (off n (1-c7.cj.aF)+i),_,⟨rfl,rfl,⟨rfl,rfl,aAV,rfl,?_,vX,rfl,Nat.zero_le _⟩,⟨0,0,_,_,.head rfl rfl rfl rfl rfl rfl rfl kP,.Cq _ U rfl rfl rfl rfl rfl bD.wr,rfl,Nat.le_refl 0,Nat.zero_le _,rfl⟩,rfl,by show(0:Nat)≠4;decide,rfl,rfl,by show 1<=max 1 (min c7.hN.Cl 1000000);omega⟩,?_⟩
 ·show oN aI ⟨c7.hN.cz,c7.cj.c6,64*((ps c7).size ((tG.gR c7.cj.ka c7.cj.aF).2.2.part c7.cj.aF):Int)⟩=0
  simp_all
 ·have:=afM (f:=fun i=>ej (ps c7).d (off n c7.cj.aF+i)) (n:=n);show 2*aI.a1.length+4+(max 0 (min c7.hN.yw 100)).toNat*(2*e6 c7.hN.gq+3)+_<=_;omega
theorem aAX{cz:List UInt8}{dN:Nat}{aE:Int}(ja:yz (ma cz dN aE b) b aa n)(bp:j<(ma cz dN aE b).a1.length):gB (re (ma cz dN aE b) b j)=(ma cz dN aE b).a1.getD j []:=by
 obtain⟨l,ad,af,ax,aO,bl,bL⟩:=EU ja bp;have jO:aE=64*(aa:Int):=ja.C;have e:(ma cz dN aE b).a1=(List.range (ma cz dN aE b).a1.length).map (EI b aE.toNat):=by unfold ma;rw[B7];rfl
 rw[bL,e,List.getD_eq_getElem?_getD,List.getElem?_map,List.getElem?_range bp];show gB _=gB ((b.drop (j*aE.toNat)).take aE.toNat);have mq:aE.toNat=64*aa:=by omega
 rw[mq,show j*(64*aa)=64*(j*aa) by grind]
 congr 1
 have wI:(l:Int)=min aE ((b.length:Int)-((64*(j*aa):Nat):Int)):=by
  have:=ad;unfold gw at this;rw[if_neg (by grind)]at this;injection this with dm da
  rw[dm]at da;exact da.symm
 grind[List.take_of_length_le]
end V
end J
namespace J
open Go Go.Ab
section
variable[cu:b0]
variable{S X:List (Nat×az)}{q:iO}{p:dY}{N:Nat}{A B:fW}{cf:Nat}{a6 cW:Value}{l:dV}{bz:List (Int×List Int)}{cU:List jl}{bf:hC}
theorem uJ.bo{s:eL}{C:fW}{b9 cF:Value}{T:List (Nat×az)}(h:uJ S s A B C a6 b9 cF T):uJ (S++X) s A B C a6 b9 cF T:=⟨h.a6.bo,h.w1,h.q4,h.nn,h.a.bo,h.b.bo,h.c.bo,h.gS,h.DO,h.ok,h.b9.bo,h.bZ.bo⟩
theorem Ch.bo(h:Ch S A B cf a6 cW l bz cU bf):Ch (S++X) A B cf a6 cW l bz cU bf:=⟨h.a.bo,h.b.bo,h.ew.bo,h.bf.bo,h.ok⟩
theorem tE.bo(h:tE S q p N):tE (S++X) q p N:=⟨h.z7,h.Ci.bo,h.Cj,h.Ck,h.w5,h.s,h.m,h.own,h.ko,h.bf.bo,h.du,h.jg,h.kT,h.l6,fun ad=>⟨(h.fa ad).aE.bo,(h.fa ad).cI.bo,(h.fa ad).wr.bo,(h.fa ad).r5,(h.fa ad).c0⟩⟩
end
theorem aAY{l:List (Nat×hk)}{i:Nat}{r:hk}(h:eH l i=some r):∃x∈l,x.1=i:=by
 induction l with
 | nil=>cases h
 | cons x dD bd=>
  rw[qd]at h
  grind
variable{S:List (Nat×az)}{q:iO}{p:dY}{N:Nat}{cf:Nat}{cW:Value}{l:dV}{cU:List jl}{bf:hC}{eO:b0}{r:hk}{dG:Nat}
theorem pZ.Db(aV:∀x∈eO.l,x.1<dG)(h:@pZ eO S cf cW bf):@pZ (iA dG r eO) S cf cW bf:=by obtain⟨⟨T,ad,af⟩,ax,aO⟩:=h;refine @pZ.mk (iA dG r eO) _ _ _ _ ⟨T,?_,af⟩ ax aO;show eH ((dG,r)::eO.l) cf=_;obtain⟨x,bX,b7⟩:=aAY ad;have:=aV x bX;rw[qd,if_neg (by omega)];exact ad
theorem tE.Db(aV:∀x∈eO.l,x.1<dG)(h:@tE eO S q p N):@tE (iA dG r eO) S q p N:=by have aX:=h.bf.Db (r:=r) aV;exact @tE.mk (iA dG r eO) _ _ _ _ h.z7 h.Ci h.Cj h.Ck h.w5 h.s h.m h.own h.ko aX h.du h.jg h.kT h.l6 fun ad=>@ago.mk (iA dG r eO) _ _ _ (h.fa ad).aE (@Ch.mk (iA dG r eO) _ _ _ _ _ _ _ _ _ _ (h.fa ad).cI.a (h.fa ad).cI.b (h.fa ad).cI.ew ((h.fa ad).cI.bf.Db (r:=r) aV) (h.fa ad).cI.ok) (h.fa ad).wr (h.fa ad).r5 (h.fa ad).c0
def qB:List UInt8:=[109,111,100,101,109]
theorem TS:V.rX oU ((iW oU xc).length:Int) xc rb 1 4:=⟨⟨TC,rfl,rfl,rfl,by decide,by decide⟩,Mi,rfl⟩
theorem aAZ:oN xc ⟨gx,0,64*((4:Nat):Int)⟩=0:=by rfl
theorem aA0:V.CH xc rb 4 1 (V.rY 0 200 (nB (iE gx))):=by
 obtain⟨g,T,h,bk⟩:=V.aAU (c7:=iE gx) (n:=4) TS rfl (by decide) rfl (by decide) (.inr rfl) (by rfl) aAZ (by intro f hf;cases hf) (by decide);have bn:xc.a1.length=2:=by rfl
 have bF:hM rb.length=2:=by decide
 have ey:e6 (iE gx).hN.gq=2:=by decide
 have i6:(max 0 (min (iE gx).hN.yw 100)).toNat=2:=by decide
 rw[bn,bF,ey,i6]at bk;rw[ey]at h;exact h.done TS (fun j bp=>V.aAX TS.i bp) (by decide) T 0 200 (by omega)
theorem aA1:(nB (iE qB)).step 0=(true,((nB (iE qB)).step 0).2)/\((nB (iE qB)).step 0).2.st=3/\((nB (iE qB)).step 0).2.hs=182:=by
 have aw:(nB (iE qB)).st=1:=rfl;have hf:w3 (Hw [(gx,Co)]) (mx qB)=none:=by rfl
 have aD:iC (nB (iE qB)).c.bN (nB (iE qB)).l (nB (iE qB)).c.er (nB (iE qB)).c.cU (nB (iE qB)).bf=(true,{(nB (iE qB)).l with bu:=182},[],[],(nB (iE qB)).bf):=by rfl
 rw[V.ag6 aw,Tf];unfold dY.z8;rw[aD];exact⟨rfl,rfl,rfl⟩
end J
namespace J
open Go Go.Ab
variable{H:au}{S F X R:List (Nat×az)}{aa:VH}{bP ca:iO}{p dK bI:dY}{N:Nat}
theorem ahc(p:Nat):(ay P .eql 34 true).f (ak p 0) (.pointer none)=some (.bool false):=by rfl
theorem TT(p:Nat):(ay P .eql 39 true).f (ak p 0) (.pointer none)=some (.bool false):=by rfl
theorem TU(fs:List UInt8)(h:fs.length<=200):(iE fs).kX:=by refine⟨⟨by show(1:Int)<=4;decide,by show(4:Int)<=20;decide⟩,Nat.zero_le _,by show 1<=5;decide,Nat.zero_le _,by show 3<=200;decide,by show 4<=200;decide,h,?_⟩;intro o bJ;have bJ:o∈ [(gx,Co)]:=bJ;rw[List.mem_singleton.1 bJ];exact⟨by show 4<=200;decide,Nat.le_trans aAj (by decide)⟩
inductive EX:b0->b0->Prop
 | rfl (L:b0):EX L L
 | lp {L cv:b0} {m:Nat} {r:hk}:EX L cv->(∀x∈cv.l,x.1<m)->EX L (iA m r cv)
structure oS [cu:b0] (H:au) (S F:List (Nat×az)) (bP:iO) (dK:dY) (ca:iO) (bI:dY) (N:Nat):Prop where
 g:en H S (F++(yv ca bI++rU ca bI)) bP dK N
 r:tE S ca bI 30
theorem oS.Af[cu:b0](h:oS H S F bP dK ca bI N){i gS:Nat}{ar:List Value}{o:Nat}{v:Value}(aq:F[i]?=some (gS,⟨ar,true⟩))(hv:ar[o]?=some v)(ag:aa v H):ah (aB (ak gS o) H) aa:=by obtain⟨⟨bc,R,U,hO⟩,_⟩:=h;exact aZ hO (S.length+i) (aS (aC (aS (aS aq)))) hv ag
theorem oS.gg[cu:b0](h:oS H S F bP dK ca bI N)(af:bI.st=1):∃sN,en H S (F++sN) ca bI 30:=by obtain⟨⟨bc,R,U,hO⟩,af⟩:=h;refine⟨R++rU bP dK,af,yv ca bI,fun _=>rfl,hO.fP (iD fun p=>by grind)⟩
theorem oS.st[cu:b0](h:oS H S F bP dK ca bI N):al H (S++F):=by obtain⟨⟨bc,R,U,hO⟩,_⟩:=h;refine hO.sub (List.Sublist.trans ?_ (List.sublist_append_left _ _));refine List.Sublist.append_left ?_ S;rw[List.append_assoc];exact List.sublist_append_left _ _
theorem aA2[cu:b0]{kQ fl:Value}{rh i1:Nat}{oh:List Value}{bY:LX}{c9:LN}(aq:F[i1]?=some (rh,⟨oh,true⟩))(hv:oh[3]?=some (ak bP.dU 0))(h:oS H S F bP dK ca bI 30)
  (ag:∀ab X gL,gL.dU=bP.dU->oS ab (S++X) F gL (V.rY 0 200 dK) ca bI 230->bY 0 [kQ,ak rh 0,fl] ab):
  fw P true 96 Qc 11 [kQ,ak rh 0,fl,int 0] H bY c9:=by
 refine aou (fun k aG ab=>∃(y:Nat) (X:List (Nat×az)) (gL:iO) (lb:dY),y<=200/\k=200-y/\aG=[kQ,ak rh 0,fl,int y]/\gL.dU=bP.dU/\oS ab (S++X) F gL lb ca bI (30+y)/\V.rY y (200-y) lb=V.rY 0 200 dK) _ _ ?_ 200 _ _ ⟨0,[],bP,dK,by omega,rfl,rfl,rfl,by rw[List.append_nil];exact h,rfl⟩;clear h;rintro k aG H ⟨y,X,gL,lb,ba,rfl,rfl,b5,h,xS⟩;unfold Yq;have eC:lb.st≠1\/y=200->bY 0 [kQ,ak rh 0,fl] H:=by
  intro fT;have e:lb=V.rY 0 200 dK:=by
   rcases fT with ad|ad
   ·simp_all[V.TR]
   ·subst ad;exact xS
  rw[e]at h;exact ag H X gL b5 ⟨h.g.mono (by omega),h.r⟩
 refine gb (fun aG ab=>aG=[kQ,ak rh 0,fl,int y]/\ab=H/\y<200/\lb.st=1) ?_ ?_
 ·try simp only[cR,cS]
  refine ai gj (bT (fun ad=>?_) (fun ad=>?_))
  ·refine aY (h.Af aq hv ?_);rw[<- b5];refine L9 h.g (ai fz (ai (ju ad) (bT (fun af=>?_) (fun af=>?_))))
   ·grind
   ·exact eC (.inl af)
  ·exact ai (kV ad) (eX rfl (eC (.inr (by omega))))
 rintro aG ab ⟨rfl,rfl,ea,fT⟩
 try simp only[cR,cS]
 refine aY (h.Af aq hv (ai (Hf (by decide)) ?_));rw[<- b5];refine Mb (by omega) h.g ?_;intro cD dH Ad aw hg;refine ai (v:=int ((y+1:Nat):Int)) (by grind[mn]) (⟨_,by omega,y+1,X++Ad,dH,_,ea,rfl,rfl,aw.dU,⟨by rw[<- List.append_assoc];exact hg,by rw[<- List.append_assoc];exact h.r.bo⟩,?_⟩);rw[<- xS,show 200-y=(200-(y+1))+1 by omega,V.ag7 fT]
end J
namespace J
open Go Go.Ab
variable{H:au}{S F X R:List (Nat×az)}{aa:VH}{q bP ca:iO}{p:dY}{N:Nat}
theorem TV(fs:List UInt8):¬((tG.gR (iE fs).cj.ka (iE fs).cj.aF).2.1≠0):=by grind[V.aha,iE]
theorem aA3{fs:List UInt8}{lu ic cW a6:Value}(h:xb S (iE gx) lu ic cW a6):xb S (iE fs) lu ic cW a6:=⟨h.gU,h.Hu,h.off,h.bR,h.Cf,h.key,h.w1⟩
theorem en.ahd[cu:b0](h:en H S F q p N):al H (S++F):=by obtain⟨bc,R,U,hO⟩:=h;refine hO.sub (List.Sublist.trans ?_ (List.sublist_append_left _ _));exact List.Sublist.append_left (List.sublist_append_left _ _) S
theorem aA4[cu:b0](hO:al H (S++F))(ag:∀(cv:b0) ab X,EX cu cv->@al cv ab ((S++X)++F)->aa (.bool true) ab):wCall P 10 [] H aa:=by
 apply aov;unfold Yr;refine Mj hO ?_;clear hO;intro H ic a6 X hW hO;refine Tq (TU gx (by decide)) hW hO (fun h=>absurd h (TV gx)) ?_;clear hO hW;intro _ ER H rh bP uq vg TW aA5;obtain⟨ft,TW⟩:=TW;obtain⟨ir,aCY,oa,dJ⟩:=aA5;obtain rfl:=oa rfl;have ahe:al H (((S++X)++uq)++(((F++[(rh,⟨lI bP,true⟩)])++yv bP (nB (iE gx)))++rU bP (nB (iE gx)))):=by rw[<- List.append_assoc];exact dJ
 refine Mj ahe ?_;clear dJ ahe;intro H TX oR Ad Mo hO;rw[agN];refine dT hO ?_;clear hO;intro dL H hO;refine gl hO (_+0) (aC rfl) rfl rfl (by
  obtain⟨aP,ad,_⟩:=Mo.off;have bJ:eP TX=true:=by rcases ad with⟨rfl,_⟩|⟨p,c,j,w,rfl,_⟩<;>rfl
  show(true&&(true&&(true&&(eP TX&&(true&&(lr (iE gx).hN oR++mc (iE gx).cj).all eP)))))=true;rw[bJ,List.all_append,azK Mo.key];rfl) ?_
 clear hO;intro H hO
 replace hO:=hO.cy
 refine ai ed (ai ed (fQ hO (_+0) (aC rfl) rfl (show 14<16 by decide) (bx:=oo (iE qB) bB TX bB oR) rfl ?_));clear hO;intro H hO
 replace hO:=hO.cy
 refine hi hO (_+0) (aC rfl) rfl (by omega) (Tq (TU qB (by decide)) (aA3 Mo) hO.left (fun h=>absurd h (TV qB)) ?_);clear hO Mo;intro _ Ac H Ct ca Mp p7 Mq w7;obtain⟨OW,Mq⟩:=Mq;obtain⟨zY,K5,iK,kC⟩:=w7;obtain rfl:=iK rfl;obtain⟨h1,Mr⟩:∃h1,h1=((((S++X)++uq)++Ad)++Mp):=⟨_,rfl⟩;obtain⟨Cu,ahf⟩:∃Cu,h1=S++Cu:=⟨((X++uq)++Ad)++Mp,by simp_all⟩;have Kt:EX cu Ac:=by
  rw[Mq];have ad:EX cu ER:=by rw[TW];exact .lp (.rfl cu) vg
  exact .lp ad p7
 have h:oS H h1 ((F++[(rh,⟨lI bP,true⟩)])++[(Ct,⟨lI ca,true⟩)]) bP (nB (iE gx)) ca (nB (iE qB)) 30:=by
  refine⟨⟨?_,yv bP (nB (iE gx)),fun _=>rfl,?_⟩,?_⟩
  ·rw[Mr,Mq];exact tE.Db p7 (@tE.bo ER _ _ _ _ _ (@tE.bo ER _ _ _ _ _ ir))
  ·rw[Mr];exact kC.fP (iD fun p=>by simp only[List.countP_append,List.countP_cons,List.countP_nil];omega)
  ·rw[Mr];exact zY
 clear kC zY ir oa iK;rw[ahf]at h;clear ahf Mr;have i1:((F++[(rh,(⟨lI bP,true⟩:az))])++[(Ct,(⟨lI ca,true⟩:az))])[F.length+0]?=some (rh,⟨lI bP,true⟩):=aS (aC rfl);have j4:((F++[(rh,(⟨lI bP,true⟩:az))])++[(Ct,(⟨lI ca,true⟩:az))])[(F++[(rh,(⟨lI bP,true⟩:az))]).length+0]?=some (Ct,⟨lI ca,true⟩):=aC rfl;refine gb (fun aG ab=>aG=[.bool false,ak rh 0,ak Ct 0]/\ab=H) ?_ ?_
 ·exact ai (ahc _) (eX rfl (ai (ahc _) (ai qi (eX rfl (aY (h.Af i1 (v:=ak bP.dU 0) rfl (ai (TT _) (ai qi (eX rfl (aY (h.Af j4 (v:=ak ca.dU 0) rfl (ai (TT _) (ai qi (eX rfl (aY (h.Af i1 (v:=ak bP.dU 0) rfl (L9 h.g (ai jh (ai qi (tb (by show¬((1:Int)≠1);decide) (⟨rfl,rfl⟩)))))))))))))))))))))
 rintro aG ab ⟨rfl,rfl⟩
 try simp only[cR,cS]
 refine aA2 i1 rfl h ?_;clear h;intro H X gL b5 h;have ahg:=aA0;show cond (Nat.beq 0 0) _ _;rw[Nat.beq_refl];show ae _ _;refine aY (h.Af i1 (v:=ak bP.dU 0) rfl ?_);rw[<- b5];refine L9 h.g ?_;rw[ahg.st];refine ai fz (nK rfl (aY (h.Af i1 (v:=ak bP.dU 0) rfl ?_)));rw[<- b5];refine azd h.g ?_;rw[ahg.wr];refine ai fz (ai (ju rfl) (nK (by decide) (aY (h.Af j4 (v:=ak ca.dU 0) rfl ?_))));obtain⟨sN,w7⟩:=h.gg rfl;clear h;obtain⟨fk,dG,s3⟩:=aA1;refine Mb (dW:=0) (by omega) w7 ?_;clear w7;intro H dH HQ aw hg;rw[fk];have cI:∀ {o:Nat} {v:Value} {aa:VH},(lI ca)[o]?=some v->aa v H->ah (aB (ak Ct o) H) aa:=by intro o v aa ad af;obtain⟨_,R,_,hO⟩:=hg;exact aZ hO ((((S++Cu)++X)++HQ).length+((F++[(rh,(⟨lI bP,true⟩:az))]).length+0)) (aS (aC (aS (aS j4)))) ad af
 refine ai (ju (by decide)) (fU rfl (aY (cI (v:=ak ca.dU 0) rfl ?_)));rw[<- aw.dU];refine L9 hg ?_;rw[dG];refine ai fz (ai mI (nK rfl (aY (cI (v:=ak ca.dU 0) rfl ?_))));rw[<- aw.dU];refine azc hg ?_;rw[s3];refine ai fz (ai (ju rfl) ?_);have hO:=hg.ahd;have:=ag _ H ((Cu++X)++HQ) Kt (by refine al.sub (Γ:=(((S++Cu)++X)++HQ)++(((F++[(rh,(⟨lI bP,true⟩:az))])++[(Ct,(⟨lI ca,true⟩:az))])++sN)) hO ?_;rw[show S++((Cu++X)++HQ)=((S++Cu)++X)++HQ by grind];refine List.Sublist.append_left ?_ _;rw[List.append_assoc,List.append_assoc];exact List.sublist_append_left _ _);exact this
end J
namespace J
open Go Go.Ab
variable[cu:b0]
variable{H:au}{S F X R Γ:List (Nat×az)}{aa:VH}{q ca:iO}{p:dY}{N i dU:Nat}{ar:List Value}{st hs dW:Int}{cj:uU}{a6:Value}
theorem ahh(hO:al H Γ)(aq:Γ[i]?=some (dU,⟨ar,true⟩))(h:ar[9]?=some (int st))(ag:aa (int st) H):wCall P 15 [ak dU 0] H aa:=by apply Yv;unfold Qf;exact aY (aZ hO i aq (by omega) ag)
theorem ahi(hO:al H Γ)(aq:Γ[i]?=some (dU,⟨ar,true⟩))(h:ar[10]?=some (int hs))(ag:aa (int hs) H):wCall P 19 [ak dU 0] H aa:=by apply YA;unfold Qg;exact aY (aZ hO i aq (by omega) ag)
theorem TY(hO:al H Γ)(aq:Γ[i]?=some (dU,⟨ar,true⟩))(h:ar[9]?=some (int st))(aw:st≠1)(ag:aa (.bool false) H):wCall P 14 [ak dU 0,int dW] H aa:=by apply Yu;unfold Qe;exact aY (aZ hO i aq (by omega) (ai jh (nK aw ag)))
theorem ahj(hO:al H Γ)(aq:Γ[i]?=some (dU,⟨ar,true⟩))(h:ar[9]?=some (int st))(aw:st≠1)(ag:aa (.bool false) H):wCall P 29 [ak dU 0] H aa:=by apply YG;unfold Qh;exact aY (aZ hO i aq (by omega) (ai jh (nK aw ag)))
theorem en.pG(h:en H S F q p N)(ag:∀ab ic a6 X,xb (S++X) (iE gx) bB ic bB a6->en ab (S++X) F q p N->aa (agg (oo (iE gx) bB ic bB a6)) ab):wCall P 26 [] H aa:=by obtain⟨bc,R,U,hO⟩:=h;rw[List.append_assoc]at hO;refine Mj hO ?_;intro ab ic a6 X hW iR;refine ag ab ic a6 X hW ⟨bc.bo,R,U,?_⟩;rw[List.append_assoc];exact iR
theorem en.ahk{hN:w9}(h:en H S F q p N)(rB:cl S a6 hN.key)(xG:ct hN.key)(kF:hN.key.length<=1000000)(nF:hN.cz.length<=1000000)(CY:cj.fs.length<=1000000)(hg:p.w.s.ig<1000)(eU:∀l0,p.w.m.size l0<=100000)(hf:(p.w.s.gR cj.ka cj.aF).2.1≠0)(aw:(p.w.s.gR cj.ka cj.aF).2.2=p.w.s)
  (ag:∀ab,en ab S F q p N->aa (.tuple [.pointer none,int (p.w.s.gR cj.ka cj.aF).2.1].toArray) ab):wCall P 27 [agg (lr hN a6),ak q.bN 0,ak q.b6 0,agg (mc cj)] H aa:=by
 obtain⟨bc,R,U,hO⟩:=h;have dJ:al H (((S++((F++R)++[(q.c,(⟨q.aE p,true⟩:az)),(q.w,⟨q.W.j0 p.w,true⟩),(q.cq,nz p.d.fB p.d.mb q.ej p.d.e5.length),(q.ej,nA p.d.e5),(q.dU,⟨mT q p.w.cA p.st p.hs,true⟩)]))++((q.bN,⟨fX q.cf q.cW p.bf.du,true⟩)::dQ q.L p.w.m))++[(q.b6,⟨fr p.w.s q.L.cV,true⟩)]):=
  hO.fP (iD fun sO=>by simp only[rU,List.countP_append,List.countP_cons,List.countP_nil];omega)
 refine Tp (N:=N) (bf:=p.bf) rB xG kF nF CY hg bc.s bc.m bc.own bc.ko (eU _) bc.bf bc.du dJ ?_ (fun h=>absurd h hf);intro _ ab iR;rw[aw]at iR;exact ag ab ⟨bc,R,U,iR.fP (iD fun sO=>by simp only[rU,List.countP_append,List.countP_cons,List.countP_nil];omega)⟩
theorem en.aA6{hN:w9}(h:en H S F q p N)(rB:cl S a6 hN.key)(xG:ct hN.key)(kF:hN.key.length<=1000000)(nF:hN.cz.length<=1000000)(CY:cj.fs.length<=1000000)(hg:p.w.s.ig<1000)(eU:∀l0,p.w.m.size l0<=100000)(hf:(p.w.s.gR cj.ka cj.aF).2.1=0)
  (ag:∀ab ca X sN,en ab (S++X) ((F++[(q.dU,⟨mT q p.w.cA p.st p.hs,true⟩)])++sN) ca (Md hN cj (p.w.s.gR cj.ka cj.aF).2.2 p.w.m p.bf) N->aa (.tuple [ak ca.dU 0,int 0].toArray) ab):wCall P 27 [agg (lr hN a6),ak q.bN 0,ak q.b6 0,agg (mc cj)] H aa:=by
 obtain⟨bc,R,U,hO⟩:=h;have dJ:al H (((S++((F++[(q.dU,(⟨mT q p.w.cA p.st p.hs,true⟩:az))])++(R++[(q.c,(⟨q.aE p,true⟩:az)),(q.w,⟨q.W.j0 p.w,true⟩),(q.cq,nz p.d.fB p.d.mb q.ej p.d.e5.length),(q.ej,nA p.d.e5)])))++((q.bN,⟨fX q.cf q.cW p.bf.du,true⟩)::dQ q.L p.w.m))++[(q.b6,⟨fr p.w.s q.L.cV,true⟩)]):=
  hO.fP (iD fun sO=>by simp only[rU,List.countP_append,List.countP_cons,List.countP_nil];omega)
 refine Tp (N:=N) (bf:=p.bf) rB xG kF nF CY hg bc.s bc.m bc.own bc.ko (eU _) bc.bf bc.du dJ (fun h=>absurd hf h) ?_;intro _ ab ca X _ _ _ _ hg;exact ag ab ca X _ hg
end J
namespace J
open Go Go.Ab
variable{H:au}{S F X R Γ:List (Nat×az)}{aa:VH}{q bP ca:iO}{p:dY}{N dU:Nat}{ar:List Value}{st hs dW:Int}{cj:uU}{a6:Value}
theorem en.kL[cu:b0]{ab:au}{h1:List (Nat×az)}{gL:iO}{lb:dY}{vT gS o:Nat}(h:en H S (F++[(gS,⟨ar,true⟩)]) q p N)(a7:en ab h1 (F++[(gS,⟨ar,true⟩)]) gL lb vT)(aw:ar.all fH=true):ei (dZ H ab) (cd [ak gS o]):=by obtain⟨bc,R,U,hO⟩:=h;obtain⟨Cg,Sh,gI,iR⟩:=a7;exact ha hO (S.length+(F.length+0)) (aS (aC (aS (aC rfl)))) iR (h1.length+(F.length+0)) (aS (aC (aS (aC rfl)))) aw
theorem Cv(q:iO):(lI q).all fH=true:=rfl
theorem ahl:(di P 29).f [(0,(.int .i64 2)),(1,(.int .i64 0)),(2,(.string ⟨#[99,111,114,101]⟩))]=some (agg (mc ⟨2,0,gx,0⟩)):=by rfl
theorem aA7:(di P 29).f [(0,(.int .i64 0)),(1,(.int .i64 0)),(2,(.string ⟨#[99,111,114,101]⟩))]=some (agg (mc ⟨0,0,gx,0⟩)):=by rfl
theorem ahm:(ay P .eql 39 true).f (.pointer none) (.pointer none)=some (.bool true):=by rfl
theorem TZ{q gL:iO}(h:q.fg gL):(lI q)[1]?=some (ak gL.bN 0):=by rw[h.bN];rfl
theorem T0{q gL:iO}(h:q.fg gL):(lI q)[2]?=some (ak gL.b6 0):=by rw[h.b6];rfl
theorem yA{q gL:iO}(h:q.fg gL):(lI q)[3]?=some (ak gL.dU 0):=by rw[h.dU];rfl
def ri:dY:=nB (iE gx)
theorem Ms:ri.w.s=⟨1,1,1,1,1,2⟩:=by rfl
theorem T1(l0:Int):ri.w.m.size l0<=100000:=Nat.le_trans (agD (w:=iE gx) (l0:=l0) (by show(4:Int)<=20;decide)) (by decide)
def Mt:dY:=ri.EL 9
def yB:dY:=Mt.EL 1
theorem aA8:Mt.step 3=(false,Mt):=by rfl
theorem aA9:yB.d.Hn=10:=by rfl
theorem aBa:yB.step 3=(true,yB.lB 3 221):=by rfl
theorem ahn:(yB.lB 3 221).w.s=⟨0,0,0,1,1,2⟩:=by rfl
theorem pnames_main[cu:b0](hO:al H Γ)(mq:∀H,aa (.bool true) H):wCall P 6 [] H aa:=by
 apply aot;unfold Yp;have pL:al H (Γ++[]):=by rw[List.append_nil];exact hO
 refine aA4 pL ?_;clear hO pL;intro ER H X _ hO;refine ai jt (eX rfl (Mj hO ?_));clear hO;intro H ic a6 Ad hW hO;refine Tq (TU gx (by decide)) hW hO (fun h=>absurd h (TV gx)) ?_;clear hO hW;intro _ Ac H gS q Mp _ _ hg;generalize bE:((Γ++X)++Ad)++Mp=S0 at hg;clear bE;have hg:en H S0 ([]++[(gS,⟨lI q,true⟩)]) q ri 30:=hg;have jC:=hg;refine hg.pG ?_;clear hg;intro H ic a6 iQ hW hg;refine ai (show _=some (agg (lr (iE gx).hN a6))from rfl) (aY (hg.cI (TZ .gm) (⟨jC.kL hg (Cv q),?_⟩)));refine aY (hg.cI (T0 .gm) (⟨jC.kL hg (Cv q),?_⟩));clear jC;refine ai ahl ?_;have a8:ri.w.s.gR 2 0=(0,161,ri.w.s):=by rw[Ms];rfl
 refine hg.ahk (cj:=⟨2,0,gx,0⟩) hW.key hW.w1 (by decide) (by decide) (by decide) (by rw[Ms];decide) T1 (by show(ri.w.s.gR 2 0).2.1≠0;rw[a8];decide) (by show(ri.w.s.gR 2 0).2.2=_;rw[a8]) ?_;clear hg hW;intro H hg;have bn:(ri.w.s.gR 2 0).2.1=161:=by rw[a8]
 rw[show(ri.w.s.gR (⟨2,0,gx,0⟩:uU).ka (⟨2,0,gx,0⟩:uU).aF).2.1=161 from bn];refine ai km (ai kn ?_);have jC:=hg;refine hg.pG ?_;clear hg;intro H ic a6 Cw hW hg;refine ai (show _=some (agg (lr (iE gx).hN a6))from rfl) (aY (hg.cI (TZ .gm) (⟨jC.kL hg (Cv q),?_⟩)));refine aY (hg.cI (T0 .gm) (⟨jC.kL hg (Cv q),?_⟩));clear jC;refine ai aA7 ?_;have dL:ri.w.s.gR 0 0=(0,101,ri.w.s):=by rw[Ms];rfl
 refine hg.ahk (cj:=⟨0,0,gx,0⟩) hW.key hW.w1 (by decide) (by decide) (by decide) (by rw[Ms];decide) T1 (by show(ri.w.s.gR 0 0).2.1≠0;rw[dL];decide) (by show(ri.w.s.gR 0 0).2.2=_;rw[dL]) ?_;clear hg hW;intro H hg;have bF:(ri.w.s.gR 0 0).2.1=101:=by rw[dL]
 rw[show(ri.w.s.gR (⟨0,0,gx,0⟩:uU).ka (⟨0,0,gx,0⟩:uU).aF).2.1=101 from bF];refine ai km (ai kn (aY (hg.cI (yA .gm) (agq (a:=9) hg ?_))));clear hg;intro H hg;have hg:en H ((S0++iQ)++Cw) ([]++[(gS,⟨lI q,true⟩)]) q Mt 30:=hg;refine aY (hg.cI (yA .gm) (Mb (dW:=3) (by decide) hg ?_));clear hg;intro H bP EY iI hg;rw[aA8]at hg⊢;refine aY (hg.cI (yA iI) (agq (a:=1) hg ?_));clear hg;intro H hg;have hg:en H (((S0++iQ)++Cw)++EY) ([]++[(gS,⟨lI q,true⟩)]) bP yB 31:=hg;refine aY (hg.cI (yA iI) (aze hg ?_));rw[aA9];refine aY (hg.cI (yA iI) (⟨hg.kL hg (Cv q),?_⟩));refine Mb (dW:=3) (by decide) hg ?_;clear hg;intro H ca HR la hg;rw[aBa]at hg⊢;have la:=iI.trans la;have jC:=hg;refine hg.pG ?_;clear hg;intro H ic a6 HS hW hg;refine ai (show _=some (agg (lr (iE gx).hN a6))from rfl) (aY (hg.cI (TZ la) (⟨jC.kL hg (Cv q),?_⟩)));refine aY (hg.cI (T0 la) (⟨jC.kL hg (Cv q),?_⟩));clear jC;refine ai ahl (hg.aA6 (cj:=⟨2,0,gx,0⟩) hW.key hW.w1 (by decide) (by decide) (by decide) (by rw[ahn];decide) T1 (by rw[ahn];rfl) ?_);clear hg hW;intro H z HT sN hg;generalize Et:Md (iE gx).hN ⟨2,0,gx,0⟩ _ _ _=HU at hg;have aCZ:HU.st=1:=by rw[<- Et];rfl
 clear Et;refine ai km (ai kn (ai (TT _) (eX rfl (azi hg ?_))));clear hg;intro H hg;have aA:HU.Hy=(true,HU.lB 4 0):=by unfold dY.Hy;rw[if_neg (by omega)]
 rw[aA]at hg⊢;have hO:=hg.ahd;obtain⟨_,R,_,HV⟩:=hg;have mm:((((((((S0++iQ)++Cw)++EY)++HR)++HS)++HT))++((([]++[(gS,(⟨lI q,true⟩:az))])++[(ca.dU,(⟨mT ca (yB.lB 3 221).w.cA 3 221,true⟩:az))])++sN))[((((((S0++iQ)++Cw)++EY)++HR)++HS)++HT).length+0]?=some (gS,⟨lI q,true⟩):=aC rfl;have Mu:((((((((S0++iQ)++Cw)++EY)++HR)++HS)++HT))++((([]++[(gS,(⟨lI q,true⟩:az))])++[(ca.dU,(⟨mT ca (yB.lB 3 221).w.cA 3 221,true⟩:az))])++sN))[((((((S0++iQ)++Cw)++EY)++HR)++HS)++HT).length+1]?=some (ca.dU,⟨mT ca (yB.lB 3 221).w.cA 3 221,true⟩):=aC rfl;have HW:=kJ (S:=(((((S0++iQ)++Cw)++EY)++HR)++HS)++HT) (F:=(([]++[(gS,(⟨lI q,true⟩:az))])++[(ca.dU,(⟨mT ca (yB.lB 3 221).w.cA 3 221,true⟩:az))])++sN) (R:=R) (q:=z) (p:=HU.lB 4 0) (k:=6) (x:=(z.dU,⟨mT z (HU.lB 4 0).w.cA 4 0,true⟩)) rfl;refine ai ahm (ai mI (fU rfl (ai fz (ai mI (nK rfl (ai ahm (ai (ju rfl) (fU rfl (ai fz (ai mI (nK rfl (ai jt (ai (ju rfl) (fU rfl (ai fz (ai mI (nK rfl (ai (ju rfl) (fU rfl (aY (aZ hO _ mm (by rw[Nat.zero_add];exact yA la) (ahh (st:=3) hO Mu rfl (ai fz (ai mI ?_))))))))))))))))))))))));refine nK rfl (aY (aZ hO _ mm (by rw[Nat.zero_add];exact yA la) (ahi (hs:=221) hO Mu rfl (ai fz (ai (ju rfl) (nK rfl (aY (aZ hO _ mm (by rw[Nat.zero_add];exact yA la) (ahj (st:=3) hO Mu rfl (by decide) (ai jt (ai (ju rfl) (fU rfl (aY (aZ hO _ mm (by rw[Nat.zero_add];exact yA la) (TY (st:=3) hO Mu rfl (by decide) (ai jt (ai mI (fU rfl (ai fz (ai mI (nK rfl (ai (ju rfl) (fU rfl (ahh (st:=4) HV HW rfl ?_))))))))))))))))))))))))
 exact ai fz (ai mI (nK rfl (ahi (hs:=0) HV HW rfl (ai fz (ai (ju rfl) (nK rfl (TY (st:=4) HV HW rfl (by decide) (ai jt (ai (ju rfl) (fU rfl (TY (st:=4) HV HW rfl (by decide) (ai jt (ai mI (fU rfl (ahj (st:=4) HV HW rfl (by decide) (ai jt (ai mI (mq _))))))))))))))))))
end J
