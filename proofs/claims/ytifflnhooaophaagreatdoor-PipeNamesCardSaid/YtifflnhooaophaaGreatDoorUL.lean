/- texts of the pv, gd behind the oq -/
import Derived.Test.YtifflnhooaophaaGreatDoorUK
set_option linter.unusedVariables false
set_option linter.unusedSimpArgs false
set_option linter.unusedSectionVars false
set_option maxHeartbeats 4000000
set_option maxRecDepth 100000
namespace J
open Go Go.Ab
variable[cu:b0]
variable{d:bO}{m:bt}{x:List Int}{aj:List (List Int)}{n k y e:Nat}{w aL dF e3:bU}{aF:Int}{f g:Nat->List Int}
inductive ys:Nat->bU->bU->Prop
 | nil (w:bU):ys 0 w w
 | step {k:Nat} {w dF e3:bU}:w.step=(true,dF)->ys k dF e3->ys (k+1) w e3
theorem ys.gd(h:w.step=(true,dF)):ys 1 w dF:=.step h (.nil _)
theorem ys.trans{j:Nat}(h:ys k w dF)(a7:ys j dF e3):ys (k+j) w e3:=by
 induction h with
 | nil=>rw[Nat.zero_add];exact a7
 | step ad _ bd=>rw[Nat.succ_add];exact .step ad (bd a7)
structure e2 (w:bU) (n:Nat) (aF:Int) (f g:Nat->List Int):Prop where
 k8:w.s.uL w.cA
 c4:w.s.dh=aF
 cw:w.dh=aF
 kY:w.s.kY=0
 dK:w.s.dK=1
 ib:mR aF
 gg:h8 w.m n n
 h9:w.m.d.fK=false
 jf:w.m.d.gv=-1
 gQ:w.m.d.gQ=100
 f:∀i,i<n->ej w.m.d (off n aF+i)=f i
 g:∀i,i<n->ej w.m.d (off n (1-aF)+i)=g i
theorem e2.part(h:e2 w n aF f g):w.s.part aF=aF:=by
 unfold gK.part;rcases h.ib with e|e<;>subst e
 ·rw[if_neg (by omega),if_pos rfl,h.kY]
 ·rw[if_neg (by omega),if_neg (by omega),h.dK]
theorem uQ{b:Int}:kI n n b=n:=by simp_all[kI]
theorem e2.size(h:e2 w n aF f g):w.size=n:=by unfold bU.size;rw[h.cw,h.part,Ca h.gg h.ib,uQ]
theorem afF{j:Nat}(bp:j<d.cells.length):(d.gA (j:Int)).2=0:=by simp_all[bO.gA,LZ]
theorem SO{A B:Nat}{b:Int}(h:h8 m A B)(an:mR b)(ba:y<kI A B b):(m.gA b y).2=0:=by unfold bt.gA;rw[yr h an ba,if_neg (by simp)];exact afF (yq h an ba)
theorem e2.gA(h:e2 w n aF f g)(ba:y<n):w.s.gA w.m w.dh y=(f y,0):=by
 unfold gK.gA;have aw:kI n n aF=n:=uQ;have aX:¬(aF:Int)<0:=by rcases h.ib with e|e<;>omega
 rw[h.cw,h.part,if_neg aX];refine Prod.ext ?_ ?_
 ·show(w.m.gA aF y).1=_;rw[Cb h.gg h.ib (by omega)];exact h.f y ba
 ·exact SO h.gg h.ib (by omega)
theorem e2.po(h:e2 w n aF f g)(ba:y<n):po w y↔f y≠jd:=by
 unfold J.po;rw[h.gA ba]
 simp_all
theorem afG:∀(k y z:Nat),w.tA k y=some z->y<=z/\z<y+k/\po w z
 | 0,y,z,h=>by cases h
 | k+1,y,z,h=>by
  have h:(if po w y then some y else w.tA k (y+1))=some z:=h;split at h
  ·simp_all
  ·obtain⟨a,b,c⟩:=afG k (y+1) z h
   grind
theorem afH:∀(k y:Nat),w.tA k y=none->∀z,y<=z->z<y+k->¬po w z
 | 0,y,h,z,ad,af=>by omega
 | k+1,y,h,z,ad,af=>by
  have h:(if po w y then some y else w.tA k (y+1))=none:=h;split at h
  ·cases h
  ·rename_i aJ;by_cases e:z=y
   ·subst e;exact aJ
   ·exact afH k (y+1) h z (by omega) (by omega)
theorem SP{i j:Nat}(an:mR aF)(aq:i<n)(bp:j<n):off n aF+i≠off n (1-aF)+j:=by grind[off]
def q6(f:Nat->List Int)(y:Nat)(x:List Int):Nat->List Int:=fun i=>if i=y then x else f i
structure afI (w aL:bU):Prop where
 s:aL.s=w.s
 cA:aL.cA=w.cA
 dh:aL.dh=w.dh
 dW:aL.m.dW=w.m.dW
theorem e2.Hv(h:e2 w n aF f g)(ba:y<n)(bJ:afI w aL)(af:h8 aL.m n n)(bM:vU w.m.d (off n aF+y) x aL.m.d):e2 aL n aF (q6 f y x) g:=by
 refine⟨by rw[bJ.s,bJ.cA];exact h.k8,by rw[bJ.s];exact h.c4,by rw[bJ.dh];exact h.cw,by rw[bJ.s];exact h.kY,by rw[bJ.s];exact h.dK,h.ib,af,bM.h9,by rw[bM.jf (by rw[h.jf];decide)];exact h.jf,by rw[bM.m];exact h.gQ,?_,?_⟩
 ·intro i aq;rw[bM.s];unfold q6;by_cases e:i=y
  ·simp_all
  ·rw[if_neg (by omega),if_neg e];exact h.f i aq
 ·intro i aq;rw[bM.s,if_neg (SP h.ib ba aq)];exact h.g i aq
theorem EJ{s:gK}{cA:Nat}{F:bt->bt×Int}(hh:s.uL cA):s.as m cA F=({(F {m with dW:=s.im}).1 with dW:=m.dW},(F {m with dW:=s.im}).2):=by simp_all[gK.as]
theorem h8.as{a:Int}(h:h8 m n n):h8 {m with dW:=a} n n:=⟨h.cF,h.B9⟩
theorem e2.rR(h:e2 w n aF f g)(ba:y<n)(aM:wr w.m.d (off n aF+y)<100):e2 (w.rR y) n aF (q6 f y jd) g/\(w.rR y).bu=0/\(∀j,wr (w.rR y).m.d j=if off n aF+y=j then wr w.m.d (off n aF+y)+1 else wr w.m.d j):=by
 have aw:kI n n aF=n:=uQ;have bn:w.rR y=w.put (w.s.as w.m w.cA (·.fb aF y)):=by unfold bU.rR;rw[h.c4,h.part]
 rw[EJ h.k8]at bn;have af:h8 {w.m with dW:=w.s.im} n n:=h.gg.as;obtain⟨a8,dL,t3,_⟩:=SL af h.ib (y:=y) (by omega);rcases afA (d:=w.m.d) (i:=off n aF+y) (yq h.gg h.ib (by omega)) h.h9 (by rw[h.gQ];exact aM)with⟨_,bJ⟩|⟨db,cp,ga⟩
 ·have:=bJ.b;rw[h.jf]at this;omega
 ·rw[bn];refine⟨?_,dL.trans db,?_⟩
  ·refine h.Hv ba ⟨rfl,rfl,rfl,rfl⟩ ?_ ?_
   ·exact Cc h.gg t3 (by show(bt.fb {w.m with dW:=w.s.im} aF y).1.d.cells.length=_;rw[a8];exact cp.len)
   ·show vU w.m.d _ jd (bt.fb {w.m with dW:=w.s.im} aF y).1.d;rw[a8];exact cp
  ·intro j;show wr (bt.fb {w.m with dW:=w.s.im} aF y).1.d j=_
   simp_all
theorem e2.afJ(h:e2 w n aF f g)(ba:w.wr<n)(an:f w.wr=jd)(x:List Int):e2 (w.pV x) n aF (q6 f w.wr x) g/\(w.pV x).bu=0/\(∀j,wr (w.pV x).m.d j=wr w.m.d j):=by
 have aw:kI n n aF=n:=uQ;have bn:w.pV x=w.put (w.s.as w.m w.cA (·.eS aF w.wr x)):=by unfold bU.pV;rw[h.c4,h.part]
 rw[EJ h.k8]at bn;have af:h8 {w.m with dW:=w.s.im} n n:=h.gg.as;obtain⟨a8,dL,t3,_⟩:=SM (s:=x) af h.ib (y:=w.wr) (by omega);rcases afB (d:=w.m.d) (i:=off n aF+w.wr) (s:=x) (yq h.gg h.ib (by omega)) h.h9 (by rw[h.f _ ba];exact an)with⟨_,bJ⟩|⟨db,cp,ga⟩
 ·have:=bJ.b;rw[h.jf]at this;omega
 ·rw[bn];refine⟨?_,dL.trans db,?_⟩
  ·refine h.Hv ba ⟨rfl,rfl,rfl,rfl⟩ ?_ ?_
   ·exact Cc h.gg t3 (by show(bt.eS {w.m with dW:=w.s.im} aF w.wr x).1.d.cells.length=_;rw[a8];exact cp.len)
   ·show vU w.m.d _ x (bt.eS {w.m with dW:=w.s.im} aF w.wr x).1.d;rw[a8];exact cp
  ·intro j;show wr (bt.eS {w.m with dW:=w.s.im} aF w.wr x).1.d j=_
   simp_all
def sM(f:Nat->List Int)(n:Nat):Nat:=(List.range n).countP fun y=>decide (f y≠jd)
theorem L1:sM f (n+1)=sM f n+if f n≠jd then 1 else 0:=by grind[sM,List.range_succ]
theorem afK:∀(n:Nat),n<=y->sM (q6 f y x) n=sM f n
 | 0,_=>rfl
 | n+1,h=>by have ad:q6 f y x n=f n:=if_neg (by omega);rw[L1,L1,afK n (by omega),ad]
theorem afL:∀(n:Nat),y<n->sM (q6 f y x) n+(if f y≠jd then 1 else 0)=sM f n+(if x≠jd then 1 else 0)
 | 0,h=>by omega
 | n+1,h=>by
  rw[L1,L1];by_cases e:y=n
  ·subst e;rw[afK y (Nat.le_refl _)];have:q6 f y x y=x:=if_pos rfl
   grind
  ·have:=afL n (show y<n by omega);have ad:q6 f y x n=f n:=if_neg (by omega)
   grind
theorem ayi(h:∀i,i<n->f i=jd):sM f n=0:=by simp_all[sM]
theorem afM:sM f n<=n:=by grind[sM,List.length_range]
theorem afN(he:w.bu=0)(aw:w.dx=1):w.step=(true,w.mu):=by simp_all[bU.step]
theorem ayj(he:w.bu=0)(aw:w.dx=2)(ao:w.fM=x::aj):w.step=(true,w.fill x aj):=by simp_all[bU.step]
theorem e2.congr(h:e2 w n aF f g){xj:Nat->List Int}(hf:∀i,i<n->f i=xj i):e2 w n aF xj g:=⟨h.k8,h.c4,h.cw,h.kY,h.dK,h.ib,h.gg,h.h9,h.jf,h.gQ,fun i aq=>(h.f i aq).trans (hf i aq),h.g⟩
end J
namespace J
open Go Go.Ab
variable[cu:b0]
variable{d eE:bO}{m:bt}{b:List Int}{n k e:Nat}{w aL:bU}{aF:Int}{f g:Nat->List Int}{bf:jl}{q:List jl}{aW:df}
theorem SQ(he:w.bu=0)(aw:w.dx=0\/w.dx=2)(ao:w.fM=[])(b5:w.q=bf::q):w.step=(true,({w with q:=q}:bU).kr bf):=by
 unfold bU.step
 grind
theorem afO(he:w.bu=0)(aw:w.dx=0\/w.dx=2)(ao:w.fM=[])(b5:w.q=[]):w.step=(false,w):=by
 unfold bU.step
 grind
theorem ayk(aw:w.dx=4):w.step=(false,w):=by simp_all[bU.step]
theorem L2(he:w.bu=0)(aw:w.dx=3):w.step=(true,w.mz):=by simp_all[bU.step]
theorem ayl{ar:List Cell}{z:Nat×List Int}{j:Nat}:((tn ar z).getD j ij).e5=(ar.getD j ij).e5:=by grind[tn]
theorem afP:∀(l:List (Nat×List Int)) (ar:List Cell) (j:Nat),((jP ar l).getD j ij).e5=(ar.getD j ij).e5
 | [],_,_=>rfl
 | z::l,ar,j=>(afP l (tn ar z) j).trans ayl
theorem afQ(bD:d.fK=false)(an:d.gv=-1):d.iS=({d.step with cells:=jP d.cells d.done,done:=[]},0):=by simp_all[bO.iS,SK]
structure aym (d eE:bO):Prop where
 ej:∀j,ej eE j=ej d j
 done:eE.done=[]
 len:eE.cells.length=d.cells.length
 h9:eE.fK=false
 jf:eE.gv=-1
 gQ:eE.gQ=d.gQ
theorem SR(bD:d.fK=false)(an:d.gv=-1):d.iS.2=0/\aym d d.iS.1:=by rw[afQ bD an];exact⟨rfl,fun j=>afP _ _ _,rfl,BG _ _,SK bD (by omega),(LY (by omega)).trans an,rfl⟩
theorem e2.lq(h:e2 w n aF f g):e2 w.lq n aF f g/\w.lq.bu=0/\w.lq.m.d.done=[]:=by have bn:w.lq=w.put (w.s.as w.m w.cA (·.iS)):=rfl;rw[EJ h.k8]at bn;obtain⟨db,cp⟩:=SR h.h9 h.jf;rw[bn];refine⟨⟨h.k8,h.c4,h.cw,h.kY,h.dK,h.ib,Cc h.gg rfl cp.len,cp.h9,cp.jf,cp.gQ.trans h.gQ,fun i aq=>(cp.ej _).trans (h.f i aq),fun i aq=>(cp.ej _).trans (h.g i aq)⟩,db,cp.done⟩
theorem EK{α:Type}:∀(l:List Nat) {f g:Nat->List α},(∀i∈l,f i=g i)->l.flatMap f=l.flatMap g
 | [],_,_,_=>rfl
 | a::l,f,g,h=>by rw[List.flatMap_cons,List.flatMap_cons,h a List.mem_cons_self,EK l fun i aq=>h i (List.mem_cons_of_mem _ aq)]
theorem e2.all(h:e2 w n aF f g):w.m.all aF=(List.range n).flatMap f:=by
 have aw:kI n n aF=n:=uQ;unfold bt.all bt.vN;rw[Ca h.gg h.ib,aw];refine EK _ fun i aq=>?_
 rw[Cb h.gg h.ib (by simp_all)];exact h.f i (List.mem_range.1 aq)
theorem L3(h:mR aF):mR (1-aF):=by rcases h with e|e<;>subst e;exact .inr rfl;exact .inl rfl
theorem e2.oq(h:e2 w n aF f g):w.m.all (1-aF)=(List.range n).flatMap g:=by
 have aw:kI n n (1-aF)=n:=uQ;unfold bt.all bt.vN;rw[Ca h.gg (L3 h.ib),aw];refine EK _ fun i aq=>?_
 rw[Cb h.gg (L3 h.ib) (by simp_all)];exact h.g i (List.mem_range.1 aq)
theorem afR(h:e2 w n aF f g)(he:w.bu=0)(aw:w.dx=3)(eu:w.aW.c0<=((List.range n).flatMap f).length)(aJ:gB (((List.range n).flatMap f).take w.aW.c0.toNat)=w.aW.cq):
  ∃aL,w.step=(true,aL)/\e2 aL n aF f g/\aL.bu=0/\aL.dx=4/\aL.wr=w.wr/\aL.m.d.done=[]:=by
 obtain⟨bQ,cE,ff⟩:=h.lq;have br:w.lq.m.all (w.s.part w.dh)=(List.range n).flatMap f:=by rw[h.cw,h.part];exact bQ.all
 refine⟨{w.lq with dx:=4},?_,⟨bQ.k8,bQ.c4,bQ.cw,bQ.kY,bQ.dK,bQ.ib,bQ.gg,bQ.h9,bQ.jf,bQ.gQ,bQ.f,bQ.g⟩,cE,rfl,rfl,ff⟩
 simp_all[L2,bU.mz]
def pW(b:List Int)(i:Nat):List Int:=sL ((b.drop (64*i)).take 64)
theorem SS:∀k,64*k<=b.length->(List.range k).flatMap (pW b)=b.take (64*k)
 | 0,_=>by rfl
 | k+1,h=>by rw[List.range_succ,List.flatMap_append,SS k (by omega),List.flatMap_cons,List.flatMap_nil,List.append_nil];unfold pW sL;rw[List.length_take,List.length_drop,Nat.min_eq_left (by omega),Nat.sub_self,List.replicate_zero,List.append_nil,show 64*(k+1)=64*k+64 by omega,List.take_add]
theorem ayn:(List.range (hM b.length)).flatMap (pW b)=b++List.replicate (64*hM b.length-b.length) 255:=by
 unfold hM;have aJ:=Nat.div_add_mod b.length 64;have aV:=Nat.mod_lt b.length (show 0<64 by omega);generalize b5:b.length/64=q at*;by_cases aR:b.length%64=0
 ·rw[show(b.length+63)/64=q by omega,SS q (by omega),List.take_of_length_le (by omega),show 64*q-b.length=0 by omega,List.replicate_zero,List.append_nil]
 ·rw[show(b.length+63)/64=q+1 by omega,List.range_succ,List.flatMap_append,SS q (by omega),List.flatMap_cons,List.flatMap_nil,List.append_nil];unfold pW sL;have aD:((b.drop (64*q)).take 64)=b.drop (64*q):=List.take_of_length_le (by grind);rw[aD,<- List.append_assoc,List.take_append_drop,List.length_drop]
  grind
def tB(b:List Int)(hr:Nat)(i:Nat):List Int:=if i<hr then pW b i else jd
theorem afS:∀t,(List.range (hM b.length+t)).flatMap (tB b (hM b.length))=b++List.replicate (64*(hM b.length+t)-b.length) 255
 | 0=>by rw[Nat.add_zero,<- ayn];exact EK _ fun i aq=>if_pos (List.mem_range.1 aq)
 | t+1=>by
  rw[<- Nat.add_assoc,List.range_succ,List.flatMap_append,afS t,List.flatMap_cons,List.flatMap_nil,List.append_nil];have:tB b (hM b.length) (hM b.length+t)=List.replicate 64 255:=if_neg (by omega)
  grind[hM,List.replicate_append_replicate]
theorem ayo(h:hM b.length<=n):(List.range n).flatMap (tB b (hM b.length))=b++List.replicate (64*n-b.length) 255:=by
 have:=afS (b:=b) (n-hM b.length)
 simp_all
end J
namespace J
open Go Go.Ab
variable[cu:b0]
variable{m:bt}{x b:List Int}{aj:List (List Int)}{n k:Nat}{w dF:bU}{aF:Int}{f g:Nat->List Int}{bf:jl}{q:List jl}{aI:df}{cb:Int}
theorem e2.vV(h:e2 w n aF f g)(q:List jl):e2 {w with q:=q} n aF f g:=⟨h.k8,h.c4,h.cw,h.kY,h.dK,h.ib,h.gg,h.h9,h.jf,h.gQ,h.f,h.g⟩
theorem ayp{a l:Nat}(br:64*a+l<=b.length)(he:l%64=0\/64*a+l=b.length)(ag:k<hM l):sL ((((b.drop (64*a)).take l).drop (64*k)).take 64)=pW b (a+k):=by grind[pW,hM,List.drop_take,List.drop_drop,List.take_of_length_le]
theorem SU{N:Nat}{F:bt->bt×Int}(h:w.m.hR N)(hf:∀m,m.hR N->(F m).1.hR (N+1)):(w.put (w.s.as w.m w.cA F)).m.hR (N+1):=axm h hf
theorem ayq{N:Nat}(h:w.m.hR N):w.step.2.m.hR (N+1):=by
 have ad:w.m.hR (N+1):=h.mono (by omega);unfold bU.step;split
 ·exact ad
 split
 ·show w.mu.m.hR _;unfold bU.mu;split
  ·exact SU h fun m aV=>bt.asV aV
  ·exact ad
 split
 ·show w.mz.m.hR _;have aw:w.lq.m.hR (N+1):=SU h fun m aV=>(bt.acO aV).mono (by omega)
  unfold bU.mz;split
  ·exact aw
  split<;>exact aw
 split
 ·rename_i x aj _;show(w.fill x aj).m.hR _;have aw:(w.pV x).m.hR (N+1):=SU h fun m aV=>bt.acN aV
  unfold bU.fill;split<;>exact aw
 ·split
  ·exact ad
  ·rename_i bf q _;have:∀dF:bU,(dF.kr bf).m=dF.m:=by
    intro dF;unfold bU.kr
    grind[bU.ym,bU.body]
   show(({w with q:=q}:bU).kr bf).m.hR _;rw[this];exact ad
theorem ayr(h:0<=w.aW.c0)(bf:jl):0<=(w.kr bf).aW.c0:=by
 unfold bU.kr;by_cases aR:w.dx=0
 ·rw[if_pos aR];cases bf with
  | nk cb aI=>
   show 0<=(w.ym aI).aW.c0;unfold bU.ym;by_cases U:eB aI
   ·rw[if_neg (by simp[U])];split
    ·exact h
    ·obtain⟨_,_,_,nf,_⟩:=U
     grind
   simp_all
  | il a=>exact h
  | body a c=>exact h
  | eC=>exact h
 ·rw[if_neg aR]
  grind[bU.body]
theorem ays(h:0<=w.aW.c0):0<=w.step.2.aW.c0:=by
 unfold bU.step;split
 ·exact h
 split
 ·show 0<=w.mu.aW.c0;unfold bU.mu;split<;>exact h
 split
 ·show 0<=w.mz.aW.c0;unfold bU.mz;split
  ·exact h
  split<;>exact h
 split
 ·rename_i x aj _;show 0<=(w.fill x aj).aW.c0;unfold bU.fill;split<;>exact h
 ·split
  ·exact h
  simp_all[ayr]
end J
namespace J
open Go Go.Ab
variable[cu:b0]
variable{H:au}{S F X N:List (Nat×az)}{aa:VH}{c:Nat}{m:df}{w:bU}{B dn:jm}{b:List Int}{cz:List UInt8}
theorem ayt{dN:Nat}{aE:Int}(aX:sG cz=0)(ev:1<=dN)(ec:dN<=281474976710656)(fj:1<=b.length)(fl:b.length<=65536)(db:64<=aE)(cp:aE<=1024)(ga:aE%64=0)(aA:l9 b.length aE<=64):eB (ma cz dN aE b):=by
 have aR:0<=l9 b.length aE:=Rs;refine⟨aX,ev,ec,?_,?_,db,cp,ga,?_,?_⟩
 ·show(1:Int)<=((b.length:Nat):Int);omega
 ·show((b.length:Nat):Int)<=65536;omega
 ·unfold ma;rw[B7];show _=l9 ((b.length:Nat):Int) aE;omega
 simp_all[ma,B7]
def gx:List UInt8:=[99,111,114,101]
theorem ayu:sG gx=0:=by rfl
theorem ayv{N:Nat}(bc:j2 S w B)(eU:0<=w.aW.c0)(aV:w.m.hR N)(ny:N<=1000000)(hO:jR H S F w B)(ag:∀ab dn X,B.fg dn->j2 (S++X) w.step.2 dn->0<=w.step.2.aW.c0->w.step.2.m.hR (N+1)->jR ab (S++X) F w.step.2 dn->aa (.bool w.step.1) ab):wCall P 66 [ak B.c 0] H aa:=
 axZ bc eU (aV.mono ny) hO fun ab dn X ad af ax=>ag ab dn X ad af (ays eU) (ayq aV) ax
end J
namespace J
open Go Go.Ab
variable[cu:b0]
variable{H:au}{aa:VH}{Γ:List (Nat×az)}
abbrev nz(fB mb:Int)(s n:Nat):az:=⟨[int fB,int mb,aF s 0 n 3],true⟩
abbrev nA(l:List Int):az:=⟨l.map int,true⟩
section
variable{d s n:Nat}{fB mb x:Int}{l:List Int}
theorem ayw(hO:al H Γ)(i:Nat)(aq:Γ[i]?=some (d,nz fB mb s n))(ag:aa (.bool (decide (0<=x/\x<n))) H):wCall P 190 [ak d 0,int x] H aa:=by
 apply aqv;unfold aaL
 repeat refine bH ?_
 refine bT (fun h=>?_) (fun h=>?_)
 ·repeat refine bH ?_
  refine aZ hO i aq rfl ?_
  repeat (first|refine bH ?_|refine sr ?_)
  rw[show decide (0<=x/\x<n)=decide (x<n) by simp[h]]at ag;exact ag
 ·repeat refine bH ?_
  rw[show decide (0<=x/\x<n)=false by simp[h]]at ag;exact ag
theorem afT(l:List Int)(x:Int)(h:0<=x/\x<l.length):(l.map int)[0+x.toNat*1]?=some (int (l.getD x.toNat 0)):=by simp_all
def Cd(l:List Int):Int:=l.foldl max (l.getD 0 0)
theorem ayx{c:Nat}{wr:Bool}(hO:al H Γ)(j:Nat)(bp:Γ[j]?=some (s,⟨l.map int,wr⟩))(aD:0<l.length)(q0:l.length<=1000)(ag:aa (int (Cd l)) H):wCall P 152 [aF s 0 l.length c] H aa:=by
 apply aqg;unfold aav;refine ze ?_
 repeat (first|refine bH ?_|refine sr ?_|refine vC ?_)
 refine aZ hO j bp (afT l 0 (by omega)) ?_
 try simp only[cR,cS]
 refine aqf (fun k aG ab=>ab=H/\∃i:Nat,1<=i/\i<=l.length/\k=l.length-i/\∃v,aG=[aF s 0 l.length c,v,int ((l.take i).foldl max (l.getD 0 0)),int i]) _ _ ?_ (l.length-1) _ _ ⟨rfl,1,by omega,by omega,rfl,int 0,?_⟩
 ·rintro k aG ab ⟨rfl,i,ad,af,rfl,v,rfl⟩;unfold aau
  try simp only[cR,cS]
  repeat (first|refine bH ?_|refine sr ?_)
  refine bT (fun h=>?_) (fun h=>?_)
  ·repeat refine bH ?_
   refine aZ hO j bp (afT l i (by omega)) ?_
   repeat (first|refine bH ?_|refine sr ?_)
   refine⟨_,?_,rfl,i+1,by omega,by omega,rfl,v,?_⟩
   ·omega
   ·have aq:i<l.length:=by omega
    rw[List.take_succ_eq_append_getElem aq,List.foldl_append]
    simp_all
  ·have e:i=l.length:=by omega
   subst e
   repeat refine Bm ?_
   rw[List.take_of_length_le (Nat.le_refl _)];exact ag
 ·cases l with
  | nil=>rfl
  | cons a r=>simp
theorem afU{n s:Nat}:(nz fB mb s n).cells.all fH=true:=rfl
theorem ayy(an:∀y∈l,0<=y/\y<=fB)(aD:0<l.length):0<=Cd l/\Cd l<=fB:=by
 have key:∀(r:List Int) (a:Int),0<=a/\a<=fB->(∀y∈r,0<=y/\y<=fB)->0<=r.foldl max a/\r.foldl max a<=fB:=by
  intro r;induction r with
  | nil=>simp_all
  | cons x r bd=>
   intro a h U;have ao:=U x (by simp);refine bd _ ⟨?_,?_⟩ fun y ba=>U y (by simp[ba])
   ·omega
   omega
 cases l with
 | nil=>simp at aD
 | cons a r=>exact key _ _ (an _ (by simp)) an
theorem afV(hO:al H Γ)(i j:Nat)(aq:Γ[i]?=some (d,nz fB mb s l.length))(bp:Γ[j]?=some (s,nA l))(aD:0<l.length)(q0:l.length<=1000)(an:∀y∈l,0<=y/\y<=fB)(SV:fB<=1099511627776)
  (ag:aa (int (fB-Cd l)) H):wCall P 84 [ak d 0] H aa:=by
 have aV:=ayy an aD;apply apq;unfold Zt
 repeat refine bH ?_
 refine aZ hO i aq rfl ?_
 repeat refine bH ?_
 refine aZ hO i aq rfl (ayx hO j bp aD q0 (⟨ha hO i aq hO i aq afU,?_⟩))
 repeat refine bH ?_
 exact ag
theorem ayz(hO:al H Γ)(i j:Nat)(aq:Γ[i]?=some (d,nz fB mb s l.length))(bp:Γ[j]?=some (s,nA l))(aD:0<l.length)(q0:l.length<=1000)(an:∀y∈l,0<=y/\y<=fB)(SV:fB<=1099511627776)
  (ag:aa (int (if mb<=fB-Cd l then 221 else 0)) H):wCall P 125 [ak d 0] H aa:=by
 apply apK;unfold ZP;refine afV hO i j aq bp aD q0 an SV ?_
 repeat refine bH ?_
 refine aZ hO i aq rfl (⟨ha hO i aq hO i aq afU,?_⟩)
 repeat refine bH ?_
 refine bT (fun h=>?_) (fun h=>?_)
 ·rw[if_pos h]at ag;exact ag
 ·rw[if_neg h]at ag;exact ag
theorem ayA(hO:al H Γ)(i:Nat)(aq:Γ[i]?=some (d,nz fB mb s n))(aR:0<=fB)(SV:fB<=1099511627776)
  (ag:∀ab,al ab (Γ.set i (d,nz (fB+max 0 (min x (1099511627776-fB))) mb s n))->aa (.tuple #[]) ab):wCall P 75 [ak d 0,int x] H aa:=by
 apply aph;unfold Zl
 repeat refine bH ?_
 refine aZ hO i aq rfl ?_
 repeat refine bH ?_
 refine aZ hO i aq rfl ?_
 repeat (first|refine bH ?_|refine sr ?_)
 refine fQ hO i aq rfl (by simp) rfl ?_;intro ab iR;exact ag ab iR
theorem ayB(hO:al H Γ)(i j:Nat)(aq:Γ[i]?=some (d,nz fB mb s l.length))(bp:Γ[j]?=some (s,nA l))
  (ag:∀ab,al ab (Γ.set j (s,nA (if 0<=x/\x<l.length then l.set x.toNat fB else l)))->aa (.bool (decide (0<=x/\x<l.length))) ab):wCall P 133 [ak d 0,int x] H aa:=by
 apply apT;unfold ZW;refine ayw hO i aq ?_;by_cases h:0<=x/\x<(l.length:Int)
 ·rw[if_pos h,decide_eq_true h]at ag;rw[decide_eq_true h]
  repeat (first|refine bH ?_|refine wL ?_)
  refine aZ hO i aq rfl ?_
  repeat refine bH ?_
  refine aZ hO i aq rfl ?_
  repeat refine bH ?_
  have e:(l.map int).set (0+x.toNat*1) (int fB)=(l.set x.toNat fB).map int:=by simp_all
  refine fQ hO j bp rfl (by grind) e ?_;intro ab iR;exact ag ab iR
 ·rw[if_neg h,decide_eq_false h]at ag;rw[decide_eq_false h]
  repeat (first|refine bH ?_|refine lg ?_)
  refine ag H ?_;rw[show Γ.set j (s,nA l)=Γ from ?_]
  ·exact hO
  ·apply List.ext_getElem?
   grind
theorem ayC:qF P 48=⟨tO 1 8 [int 0]⟩:=by rfl
theorem ayD(a:Int)(x:Option Addr)(n c:Nat):(di P 266).f [(1,.int .i64 a),(2,.slice x n c)]=some (.agg #[.int .i64 0,.int .i64 a,.slice x n c]):=by rfl
theorem ayE{afW mh:Int}(hO:al H Γ)
  (ag:∀s d ab,al ab (Γ++[(s,nA (List.replicate (max 1 (min mh 8)).toNat 0)),(d,nz 0 (max 1 (min afW 1000000)) s (max 1 (min mh 8)).toNat)])->aa (ak d 0) ab):wCall P 83 [int afW,int mh] H aa:=by
 apply apo;unfold Zs
 repeat refine sr ?_
 rw[ayC];have e:max 1 (min mh 8)=((max 1 (min mh 8)).toNat:Int):=by omega
 have bF:(max 1 (min mh 8)).toNat<=8:=by omega
 rw[e];generalize (max 1 (min mh 8)).toNat=w at*;refine F9 (k:=.i64) (fh:=.i64) hO (by omega) (by omega) ?_;intro s H hO;rw[ayD];refine ai rfl (dT hO ?_);intro d H hO;rw[alk,List.append_assoc]at hO;refine ag s d H ?_;rw[show(nA (List.replicate w 0))=⟨List.replicate w (int 0),true⟩ by simp[nA]];exact hO
end
end J
namespace J
open Go Go.Ab
structure pq where
 js:Int
 uc:Int
 v:Nat
abbrev q7:=List (List UInt8×List Int)
def w3:q7->List UInt8->Option (List Int)
 | [],_=>none
 | o::r,k=>if o.1=k then some o.2 else w3 r k
def Ce(jr:q7)(o:List UInt8×List Int):q7:=if w3 jr (mx o.1)=none/\sG o.1=0 then jr++[(mx o.1,o.2)]else jr
def Hw(l:q7):q7:=l.foldl Ce []
structure hC where
 off:q7
 bR:List pq
 du:Nat
def nW(b:List Int)(a hr:Int):List Int:=if a<0\/(b.length:Int)<=a\/hr<1 then []else(b.drop a.toNat).take hr.toNat
def hC.next(n:hC):pq×List pq:=match n.bR with
 | []=>(⟨0,0,0⟩,[])
 | f::r=>(f,r)
def afX(b:List Int)(f:pq):List Int:=if b=[]then b else b.set ((max f.uc 0).toNat%b.length) ((((b.getD ((max f.uc 0).toNat%b.length) 0).toNat ^^^ f.v):Nat):Int)
def pX(all:List Int)(a hr:Int)(f:pq):List Int×Int:=
 if f.js=1 then([],181)
 else if f.js=2 then(afX (nW all a hr) f,0)
 else if f.js=3 then((nW all a hr).take (max 0 (min f.uc (nW all a hr).length)).toNat,0)
 else if f.js=4 then(nW all f.uc hr,0)
 else(nW all a hr,0)
def hC.mS(n:hC)(fs:List UInt8)(a hr:Int):(List Int×Int)×hC:=match w3 n.off (mx fs)with
 | none=>(([],182),n)
 | some all=>(pX all a hr n.next.1,{n with bR:=n.next.2,du:=n.du+1})
structure dV where
 fs:List UInt8
 left:Nat
 dc:Option (Int×df)
 eo:Int
 bu:Int
def dV.try(l:dV):Bool×dV:=if l.left=0 then(false,{l with bu:=191})else(true,{l with left:=l.left-1})
def dV.rS(l:dV)(a:Int):Bool:=match l.dc with
 | none=>decide (a=-1)
 | some (_,m)=>decide (0<=a/\a<m.a1.length)
def dV.follow(l:dV)(s:jl):dV:=match s with
 | .il a=>if l.rS a=false then {l with bu:=192}else if l.left=0 then {l with bu:=191}else {l with left:=l.left-1,eo:=a}
 | .nk n m=>if l.dc.isSome=true\/¬eB m\/n<0\/n>2304 then {l with bu:=192}else {l with dc:=some (n,m),eo:=0}
 | _=>{l with bu:=192}
def dV.jn(l:dV):Int×Int:=if l.eo=-1 then(0,2304)else match l.dc with
 | none=>(0,0)
 | some (n,m)=>(n+(gw m l.eo).1,(gw m l.eo).2)
def dV.on(l:dV):dV:=match l.dc with
 | none=>{l with eo:=-2}
 | some (_,m)=>if l.eo+1=m.a1.length then {l with eo:=-2}else {l with eo:=l.eo+1}
def iC(n:Nat)(l:dV)(bz:List (Int×List Int))(cU:List jl)(bf:hC):Bool×dV×List (Int×List Int)×List jl×hC:=
 if l.bu≠0 then(false,l,bz,cU,bf)
 else match cU with
  | s::r=>(true,l.follow s,bz,r,bf)
  | []=>if l.eo=-2\/bz.length=n then(false,l,bz,[],bf)
   else match bf.mS l.fs l.jn.1 l.jn.2 with
    |((b,e),rT)=>if e=0 then(true,l.on,bz++[(l.eo,b)],[],rT)
     else if e=181 then(true,l.try.2,bz,[],rT)
     else(true,{l with bu:=e},bz,[],rT)
structure uR where
 fB:Int
 mb:Int
 e5:List Int
def uR.zZ(d:uR)(i:Nat):uR:={d with e5:=d.e5.set i d.fB}
def uR.Hn(d:uR):Int:=d.fB-Cd d.e5
def uR.EL(d:uR)(n:Int):uR:={d with fB:=d.fB+max 0 (min n (1099511627776-d.fB))}
structure dY where
 l:dV
 c:eL
 w:bU
 bf:hC
 d:uR
 st:Int
 hs:Int
def dY.lB(p:dY)(st hs:Int):dY:={p with st:=st,hs:=hs,w:={p.w with s:=p.w.s.drop p.w.cA}}
def dY.ks(p:dY)(dW:Nat)(ks:Bool)(e:Int)(done:Bool):Bool×dY:=
 let q:dY:=if ks then {p with d:=p.d.zZ dW}else p
 (ks,if e≠0 then q.lB 3 e else if done then q.lB 2 0 else q)
def dY.Hx(p:dY):Bool×dY:=match iC p.c.bN p.l p.c.er p.c.cU p.bf with
 |(b,l,bz,cU,bf)=>({p with l:=l,c:={p.c with er:=bz,cU:=cU},bf:=bf}:dY).ks 0 b l.bu false
def dY.hU(p:dY):Bool×dY:=({p with c:=p.c.step.2}:dY).ks 1 p.c.step.1 p.c.step.2.bu false
def dY.z1(p:dY):Bool×dY:=
 let r:=({p.w with q:=p.c.e7}:bU).step
 ({p with w:=r.2,c:={p.c with e7:=r.2.q}}:dY).ks 2 r.1 r.2.bu (decide (r.2.dx=4))
def dY.L4(p:dY):Bool×dY:=if p.d.mb<=p.d.Hn then(true,p.lB 3 221)else(false,p)
def dY.step(p:dY)(dW:Int):Bool×dY:=
 if p.st≠1 then(false,p)
 else if dW=3 then p.L4
 else if dW=0 then p.Hx
 else if dW=1 then p.hU
 else if dW=2 then p.z1
 else(false,p)
def dY.EL(p:dY)(n:Int):dY:=if p.st=1 then {p with d:=p.d.EL n}else p
def dY.Hy(p:dY):Bool×dY:=if p.st≠1 then(false,p)else(true,p.lB 4 0)
end J
namespace J
open Go Go.Ab
variable[cu:b0]
variable{H:au}{Γ S F X:List (Nat×az)}{aa:VH}{v bb a6:Value}{ar bx:List Value}{p q o i j bf bQ cE dg g:Nat}{e a:Int}{l:dV}{m:df}
def gC(bf bQ cE:Nat)(l:dV)(a6:Value):List Value:=[ak bf 0,bZ l.fs,int l.left,ak bQ 0,ak cE 0,a6,int l.eo,int l.bu]
def vW(S:List (Nat×az))(a6:Value):Option (Int×df)->Prop
 | none=>a6=.pointer none
 | some (h,m)=>∃(g j:Nat) (bb:Value),a6=ak g 0/\S[j]?=some (g,⟨int h::b4 m bb,true⟩)/\fR S bb m.a1/\m.b1
theorem vW.bo{x:Option (Int×df)}(h:vW S a6 x):vW (S++X) a6 x:=by
 cases x with
 | none=>exact h
 | some y=>obtain⟨g,j,bb,ad,af,ax,aO⟩:=h;exact⟨g,j,bb,ad,aS af,ax.bo,aO⟩
theorem vW.gd{x:Option (Int×df)}(h:vW S a6 x):eP a6=true:=by
 cases x with
 | none=>rw[show a6=.pointer none from h];rfl
 | some y=>obtain⟨g,j,bb,rfl,_⟩:=h;rfl
theorem L5(hO:al H Γ){b dE:az}(aq:Γ[i]?=some (p,b))(bp:Γ[j]?=some (q,dE))(qc:i≠j):p≠q:=by
 intro e;subst e;have aX:=hO.sm;have ad:(Γ.map (·.1))[i]?=some p:=by simp_all
 have af:(Γ.map (·.1))[j]?=some p:=by simp_all
 grind[List.getElem?_inj]
theorem afY{x:Nat}:∀ {l:List Nat},(∀y∈l,x≠y)->sV x l=false:=by grind[sV,ki,Nat.eq_of_beq_eq_true]
theorem ayF{o:Nat}{l:List Value}(h:∀i∈cd l,p≠i):qS (cd [ak p o]) (cd l):=by unfold qS oY;show cond (not (sV p (cd l))) true false=true;rw[afY h];rfl
theorem tC{v:Value}(hO:al H (Γ++[(p,⟨ar,true⟩)]))(ad:eP v=true)(aX:o<ar.length)(aA:ar.set o v=bx)(ag:∀ab,al ab (Γ++[(p,⟨bx,true⟩)])->aa undef ab):ah (bC 1 (ak p o) v H) aa:=
 fQ hO (Γ.length+0) (aC rfl) ad aX aA fun ab h=>ag ab (by rw[Go.Ab.cy]at h;exact h)
theorem yu(hO:al H (Γ++[(p,⟨ar,true⟩)]))(hv:ar[o]?=some v)(ag:aa v H):ah (aB (ak p o) H) aa:=aZ hO (Γ.length+0) (aC rfl) hv ag
theorem afZ(c:Bool):(ay P .eql 242 c).f (.pointer none) (.pointer none)=some (.bool true):=by rfl
theorem af0(c:Bool)(p:Nat):(ay P .eql 242 c).f (ak p 0) (.pointer none)=some (.bool false):=by rfl
theorem ayG(c:Bool):(ay P .neq 242 c).f (.pointer none) (.pointer none)=some (.bool false):=by rfl
theorem ayH(c:Bool)(p:Nat):(ay P .neq 242 c).f (ak p 0) (.pointer none)=some (.bool true):=by rfl
theorem ayI(x:Value):mB 313 (h3 P 313) (.iface 313 x)=some (.tuple #[x,.bool true]):=by rfl
theorem ayJ(x:Value):mB 313 (h3 P 313) (.iface 316 x)=some (.tuple #[agg [int 0],.bool false]):=by rfl
theorem ayK(x:Value):mB 313 (h3 P 313) (.iface 327 x)=some (.tuple #[agg [int 0],.bool false]):=by rfl
theorem ayL(x:Value):mB 313 (h3 P 313) (.iface 320 x)=some (.tuple #[agg [int 0],.bool false]):=by rfl
theorem L6:dq P 313=[int 0]:=by rfl
theorem af1(aD:l.left<=1000)(hO:al H (Γ++[(dg,⟨gC bf bQ cE l a6,true⟩)]))(ag:∀ab,al ab (Γ++[(dg,⟨gC bf bQ cE l.try.2 a6,true⟩)])->aa (.bool l.try.1) ab):wCall P 132 [ak dg 0] H aa:=by
 apply apS;unfold ZV;unfold dV.try at ag;refine aY (yu hO (v:=int l.left) rfl (ai fz (bT (fun h=>?_) (fun h=>?_))))
 ·rw[if_pos (by omega)]at ag;exact aY (tC hO rfl (show 7<8 by omega) rfl ag)
 ·rw[if_neg (by omega)]at ag;exact aY (yu hO (v:=int l.left) rfl (ai (v:=int ((l.left-1:Nat):Int)) (by grind[nL]) (aY (tC hO rfl (show 2<8 by omega) rfl ag))))
theorem ayM(gi:vW S a6 l.dc)(hO:al H ((S++F)++[(dg,⟨gC bf bQ cE l a6,true⟩)]))(ag:aa (.bool (l.rS a)) H):wCall P 185 [ak dg 0,int a] H aa:=by
 apply aqq;unfold aaG;unfold dV.rS at ag;refine aY (yu hO (v:=a6) rfl ?_);cases ao:l.dc with
 | none=>rw[ao]at gi ag;rw[show a6=.pointer none from gi];exact ai (afZ _) (fU rfl (ai fz ag))
 | some y=>
  obtain⟨h,m⟩:=y;rw[ao]at gi ag;obtain⟨g,j,bb,rfl,bp,l7,ok⟩:=gi;refine ai (af0 _ _) (eX rfl (ai uk (bT (fun aR=>?_) (fun aR=>?_))))
  ·refine aY (yu hO (v:=ak g 0) rfl (aY (ai ed (aZ hO j (aS (aS bp)) (v:=bb) (by show(b4 m bb)[0+36]?=_;exact uB ok.dR) (cH l7.cG (ai gj (ai (ju aR) ?_)))))));simp only[aR,true_and]at ag;exact ag
  ·refine ai (kV aR) ?_;simp only[aR,false_and,decide_false]at ag;exact ag
theorem ayN(gi:vW S a6 l.dc)(aM:-2<=l.eo/\l.eo<=1000)(hO:al H ((S++F)++[(dg,⟨gC bf bQ cE l a6,true⟩)]))(ag:∀ab,al ab ((S++F)++[(dg,⟨gC bf bQ cE l.on a6,true⟩)])->aa (.tuple [].toArray) ab):wCall P 131 [ak dg 0] H aa:=by
 apply apR;unfold ZU;unfold dV.on at ag;refine aY (yu hO (v:=int l.eo) rfl (ai (v:=int (l.eo+1)) (mn (by omega) (by omega)) (aY (tC hO rfl (show 6<8 by omega) (bx:=gC bf bQ cE {l with eo:=l.eo+1} a6) rfl ?_))));clear hO;intro H hO;refine gb (fun aG ab=>ab=H/\aG=[ak dg 0,.bool (match l.dc with|none=>true|some (_,m)=>decide (l.eo+1=m.a1.length))]) ?_ ?_
 ·refine aY (yu hO (v:=a6) rfl ?_);cases ao:l.dc with
  | none=>rw[ao]at gi;rw[show a6=.pointer none from gi];exact ai (afZ _) (fU rfl (ai mI (⟨rfl,rfl⟩)))
  | some y=>obtain⟨h,m⟩:=y;rw[ao]at gi;obtain⟨g,j,bb,rfl,bp,l7,ok⟩:=gi;exact ai (af0 _ _) (eX rfl (aY (yu hO (v:=int (l.eo+1)) rfl (aY (yu hO (v:=ak g 0) rfl (aY (ai ed (aZ hO j (aS (aS bp)) (v:=bb) (by show(b4 m bb)[0+36]?=_;exact uB ok.dR) (cH l7.cG (ai fz (ai qi (⟨rfl,rfl⟩))))))))))))
 rintro aG ab ⟨rfl,rfl⟩
 try simp only[cR,cS]
 cases ao:l.dc with
 | none=>rw[ao]at ag;exact fU rfl (aY (tC hO rfl (show 6<8 by omega) rfl ag))
 | some y=>
  obtain⟨h,m⟩:=y;rw[ao]at ag;simp only at ag;refine bT (fun aA=>?_) (fun aA=>?_)
  ·rw[if_pos aA]at ag;exact aY (tC hO rfl (show 6<8 by omega) rfl ag)
  ·rw[if_neg aA]at ag;exact ag ab hO
end J
namespace J
open Go Go.Ab
variable[cu:b0]
variable{H:au}{kH b8 S F X N:List (Nat×az)}{aa:VH}{v bb a6:Value}{ar bx:List Value}{k j bf bQ cE dg g:Nat}{a cb:Int}{l:dV}{ej:jl}{m aI:df}
theorem Hz(h:al H (((S++F)++kH)++N)):al H ((S++(F++N))++kH):=h.fP (by rw[List.append_assoc,<- List.append_assoc S F N,List.append_assoc (S++F) N kH];exact List.Perm.append_left (S++F) List.perm_append_comm)
theorem z6(h:al H ((S++(F++N))++kH)):al H ((S++F)++kH):=h.sub (by refine List.Sublist.append_right ?_ kH;exact List.Sublist.append_left (List.sublist_append_left F N) S)
theorem af2(h:al H (((S++F)++kH)++N)):al H (((S++N)++F)++kH):=h.fP (by rw[List.append_assoc S N F,List.append_assoc S (N++F) kH,List.append_assoc,List.append_assoc S F (kH++N)];refine List.Perm.append_left S ?_;rw[<- List.append_assoc F kH N,List.append_assoc N F kH];exact List.perm_append_comm)
theorem ayO(gi:vW S a6 l.dc)(aD:l.left<=1000)(aX:uI S ej [v])(hO:al H ((S++F)++[(dg,⟨gC bf bQ cE l a6,true⟩)]))
  (ag:∀ab w4 X,vW (S++X) w4 (l.follow ej).dc->al ab (((S++X)++F)++[(dg,⟨gC bf bQ cE (l.follow ej) w4,true⟩)])->aa (.tuple [].toArray) ab):wCall P 127 [ak dg 0,v] H aa:=by
 apply apN;unfold Qr;refine dT hO ?_;clear hO;intro bI H hO
 replace hO:al H ((S++(F++[(bI,⟨[ak dg 0],true⟩)]))++[(dg,⟨gC bf bQ cE l a6,true⟩)]):=Hz hO
 have af:∀ {h1:List (Nat×az)} {vT b8},((h1++((F++[(bI,(⟨[ak dg 0],true⟩:az))])++vT))++b8)[h1.length+(F.length+0)]?=some (bI,⟨[ak dg 0],true⟩):=aS (aC (aS (aC rfl)));have jG:∀ {H:au} {vT X},al H (((S++X)++((F++[(bI,(⟨[ak dg 0],true⟩:az))])++vT))++[(dg,⟨gC bf bQ cE l a6,true⟩)])->l.follow ej={l with bu:=192}->ah (aB (ak bI 0) H) fun SB SC=>
   ae (r3 SB) fun SD=>ae (cB 7 SD) fun t46=>ah (bC 1 t46 (.int .i64 192) SC) fun SE SF=>aa (.tuple [].toArray) SF:=by
  intro H vT X hO he;refine aZ hO _ af (v:=ak dg 0) rfl (aY (tC hO rfl (show 7<8 by omega) (bx:=gC bf bQ cE {l with bu:=192} a6) rfl ?_));intro ab iR;rw[he]at ag;exact ag ab a6 X gi.bo (z6 (z6 iR))
 have aO:∀ {h1:List (Nat×az)} {cY:Nat} {jc:List Value} {b8},((h1++((F++[(bI,(⟨[ak dg 0],true⟩:az))])++[(cY,(⟨jc,true⟩:az))]))++b8)[h1.length+((F++[(bI,(⟨[ak dg 0],true⟩:az))]).length+0)]?=some (cY,⟨jc,true⟩):=aS (aC (aC rfl));cases ej with
 | il a=>
  have aX:[v]=[.iface 313 (agg [int a])]:=aX;injection aX with aX _
  subst aX;refine ai (ayI _) (ai (show _=some (agg [int a])from rfl) (ai (show _=some (Value.bool true)from rfl) ?_));rw[L6];refine dT hO ?_;clear hO;intro cY H hO;refine gl hO (_+0) (aC rfl) rfl rfl rfl ?_;clear hO;intro H hO
  replace hO:=Hz hO.cy
  replace hO:al H ((S++((F++[(bI,⟨[ak dg 0],true⟩)])++[(cY,⟨[int a],true⟩)]))++[(dg,⟨gC bf bQ cE l a6,true⟩)]):=hO
  have af3:al H (((S++[])++((F++[(bI,⟨[ak dg 0],true⟩)])++[(cY,⟨[int a],true⟩)]))++[(dg,⟨gC bf bQ cE l a6,true⟩)]):=by rw[List.append_nil];exact hO
  refine fU rfl (aZ hO _ af (v:=ak dg 0) rfl (ai ed (aZ hO _ aO (v:=int a) rfl (ayM gi hO (ai jt ?_)))));cases aA:l.rS a with
  | false=>exact fU rfl (jG af3 (by simp_all[dV.follow]))
  | true=>
   refine eX rfl (aZ hO _ af (v:=ak dg 0) rfl (af1 aD hO ?_));clear hO af3;intro H hO;unfold dV.try at hO⊢;by_cases aR:l.left=0
   ·rw[if_pos aR]at hO⊢;refine eX rfl ?_;have he:l.follow (.il a)={l with bu:=191}:=by simp_all[dV.follow]
    rw[he]at ag;exact ag H a6 [] gi.bo (by rw[List.append_nil];exact z6 (z6 hO))
   ·rw[if_neg aR]at hO⊢;refine fU rfl (aZ hO _ af (v:=ak dg 0) rfl (ai ed (aZ hO _ aO (v:=int a) rfl (aY (tC hO rfl (show 6<8 by omega) (bx:=gC bf bQ cE {l with left:=l.left-1,eo:=a} a6) rfl ?_)))));intro ab iR;have he:l.follow (.il a)={l with left:=l.left-1,eo:=a}:=by simp_all[dV.follow]
    rw[he]at ag;exact ag ab a6 [] gi.bo (by rw[List.append_nil];exact z6 (z6 iR))
 | nk cb aI=>
  obtain⟨bb,aX,l7,ok⟩:=aX;injection aX with aX _
  subst aX;refine ai (ayJ _) (ai (show _=some (agg [int 0])from rfl) (ai (show _=some (Value.bool false)from rfl) ?_));rw[L6];refine dT hO ?_;clear hO;intro cY H hO;refine gl hO (_+0) (aC rfl) rfl rfl rfl ?_;clear hO;intro H hO
  replace hO:=Hz hO.cy
  replace hO:al H ((S++((F++[(bI,⟨[ak dg 0],true⟩)])++[(cY,⟨[int 0],true⟩)]))++[(dg,⟨gC bf bQ cE l a6,true⟩)]):=hO
  refine eX rfl (ai (afo _) (ai (show _=some (Value.bool true)from rfl) (fU rfl (ai (afr _) (dT hO ?_)))));clear hO;intro gP H hO;refine gl (cN:=int cb::b4 aI bb) hO (_+0) (aC rfl) (by rfl) (by rw[List.length_cons,e1 ok.dR]) (by rw[List.all_cons,pg l7.gd];rfl) ?_;clear hO;intro H hO
  replace hO:=af2 hO.cy
  replace hO:al H (((S++[(gP,⟨int cb::b4 aI bb,true⟩)])++((F++[(bI,⟨[ak dg 0],true⟩)])++[(cY,⟨[int 0],true⟩)]))++[(dg,⟨gC bf bQ cE l a6,true⟩)]):=hO
  have bL:∀ {sN b8:List (Nat×az)},(((S++[(gP,(⟨int cb::b4 aI bb,true⟩:az))])++sN)++b8)[S.length+0]?=some (gP,⟨int cb::b4 aI bb,true⟩):=aS (aS (aC rfl));refine gb (fun aG ab=>al ab (((S++[(gP,⟨int cb::b4 aI bb,true⟩)])++((F++[(bI,⟨[ak dg 0],true⟩)])++[(cY,⟨[int 0],true⟩)]))++[(dg,⟨gC bf bQ cE l a6,true⟩)])/\aG=[ak bI 0,ak gP 0,.bool (decide (l.dc.isSome=true\/¬eB aI\/cb<0\/cb>2304))]) ?_ ?_
  ·refine aZ hO _ af (v:=ak dg 0) rfl (aY (yu hO (v:=a6) rfl ?_));cases ao:l.dc with
   | some y=>obtain⟨h,m⟩:=y;rw[ao]at gi;obtain⟨g,j,mo,rfl,_⟩:=gi;exact ai (ayH _ _) (fU rfl (ai mI (ai mI (ai mI (⟨hO,by simp⟩)))))
   | none=>
    rw[ao]at gi;rw[show a6=.pointer none from gi];refine ai (ayG _) (eX rfl (ai ed (jM (ar:=b4 aI bb) hO _ bL (by show((int cb::b4 aI bb).drop 1).take 37=_;rw[List.drop_one,List.tail_cons];exact List.take_of_length_le (by rw[e1 ok.dR];omega)) (e1 ok.dR) (by omega) (Ex ok (l7.bo.bo.bo) hO ?_))));clear hO;intro H hO;refine ai jt ?_;by_cases U:eB aI
    ·rw[decide_eq_true U];refine ai qi (eX rfl (ai ed (aZ hO _ bL (v:=int cb) rfl (ai gj (ai qi (bT (fun h=>?_) (fun h=>?_)))))))
     ·refine ai (ju h) ?_;rw[show a6=.pointer none from gi]at*
      simp_all
     ·refine ai ed (aZ hO _ bL (v:=int cb) rfl (ai sl (ai (kV h) ?_)));rw[show a6=.pointer none from gi]at*
      grind
    ·rw[decide_eq_false U];refine ai qi (fU rfl (ai mI (ai mI ?_)));rw[show a6=.pointer none from gi]at*
     simp_all
  clear hO;rintro aG H ⟨hO,rfl⟩
  try simp only[cR,cS]
  refine bT (fun h=>?_) (fun h=>?_)
  ·exact jG hO (by simp_all[dV.follow])
  ·have he:l.follow (.nk cb aI)={l with dc:=some (cb,aI),eo:=0}:=by simp_all[dV.follow]
   rw[he]at ag;refine aZ hO _ af (v:=ak dg 0) rfl (aZ hO _ af (v:=ak dg 0) rfl ?_);have e8:bI≠dg:=L5 hO af (aC (k:=0) rfl) (by grind);have fF:bI≠gP:=L5 hO af bL (by grind);refine aY (tC hO rfl (show 5<8 by omega) (bx:=gC bf bQ cE l (ak gP 0)) rfl ?_);clear hO;intro H hO;refine⟨ayF (by simp_all[cd,CO]),?_⟩;refine aY (tC hO rfl (show 6<8 by omega) (bx:=gC bf bQ cE {l with dc:=some (cb,aI),eo:=0} (ak gP 0)) rfl ?_);intro ab iR;exact ag ab (ak gP 0) [(gP,⟨int cb::b4 aI bb,true⟩)] ⟨gP,_,bb,rfl,aC (k:=0) rfl,l7.bo,ok⟩ (z6 (z6 iR))
 | body a bs=>
  obtain⟨ev,aX,jZ,vf⟩:=aX;injection aX with aX _
  subst aX;refine ai (ayK _) (ai (show _=some (agg [int 0])from rfl) (ai (show _=some (Value.bool false)from rfl) ?_));rw[L6];refine dT hO ?_;clear hO;intro cY H hO;refine gl hO (_+0) (aC rfl) rfl rfl rfl ?_;clear hO;intro H hO
  replace hO:=Hz hO.cy
  replace hO:al H (((S++[])++((F++[(bI,⟨[ak dg 0],true⟩)])++[(cY,⟨[int 0],true⟩)]))++[(dg,⟨gC bf bQ cE l a6,true⟩)]):=by rw[List.append_nil];exact hO
  exact eX rfl (ai (afp _) (ai (show _=some (Value.bool false)from rfl) (eX rfl (jG hO rfl))))
 | eC=>
  have aX:[v]=[.iface 320 (agg [])]:=aX;injection aX with aX _
  subst aX;refine ai (ayL _) (ai (show _=some (agg [int 0])from rfl) (ai (show _=some (Value.bool false)from rfl) ?_));rw[L6];refine dT hO ?_;clear hO;intro cY H hO;refine gl hO (_+0) (aC rfl) rfl rfl rfl ?_;clear hO;intro H hO
  replace hO:=Hz hO.cy
  replace hO:al H (((S++[])++((F++[(bI,⟨[ak dg 0],true⟩)])++[(cY,⟨[int 0],true⟩)]))++[(dg,⟨gC bf bQ cE l a6,true⟩)]):=by rw[List.append_nil];exact hO
  exact eX rfl (ai (afq _) (ai (show _=some (Value.bool false)from rfl) (eX rfl (jG hO rfl))))
end J
namespace J
open Go Go.Ab
variable[cu:b0]
variable{H:au}{Γ b8 S F X:List (Nat×az)}{aa:VH}{v w cW:Value}{ar bx:List Value}{p q o k n j bN cf du:Nat}{e a hr:Int}{aj:List Int}{bR gs:List pq}{f:pq}
abbrev q8(f:pq):List Value:=[int f.js,int f.uc,bS .u8 f.v]
def pY(bR:List pq):List Value:=bR.flatMap q8
theorem SW(bR:List pq):(pY bR).length=bR.length*3:=by
 induction bR with
 | nil=>rfl
 | cons f r bd=>show(q8 f++pY r).length=(r.length+1)*3;grind
theorem ayP(bR gs:List pq):pY (bR++gs)=pY bR++pY gs:=by simp_all[pY]
def j3(Γ:List (Nat×az))(v:Value)(bR:List pq):Prop:=
 (v=bB/\bR=[])\/∃p o c,v=aF p o bR.length c/\(c=6\/c=7)/\(bR=[]\/∃(j:Nat) (b:az),Γ[j]?=some (p,b)/\(b.cells.drop o).take (bR.length*3)=pY bR)
theorem j3.nil:j3 Γ bB []:=.inl ⟨rfl,rfl⟩
theorem j3.lC(h:j3 Γ v bR):∃a n c,v=.slice a n c:=by rcases h with⟨rfl,_⟩|⟨p,o,c,rfl,_⟩<;>exact⟨_,_,_,rfl⟩
theorem j3.gd(h:j3 Γ v bR):eP v=true:=by obtain⟨a,n,c,rfl⟩:=h.lC;rfl
theorem j3.sF(h:j3 Γ v bR):fH v=true:=by rcases h with⟨rfl,_⟩|⟨p,o,c,rfl,_⟩<;>rfl
theorem j3.cG(h:j3 Γ v bR):cG v H=some (int bR.length,H):=by rcases h with⟨rfl,rfl⟩|⟨p,o,c,rfl,_⟩<;>rfl
theorem j3.mZ(h:j3 Γ v bR):mZ v=some bR.length:=by rcases h with⟨rfl,rfl⟩|⟨p,o,c,rfl,_⟩<;>rfl
theorem j3.bo(h:j3 Γ v bR):j3 (Γ++b8) v bR:=by
 rcases h with h|⟨p,o,c,ad,af,ax|⟨j,b,ax,aO⟩⟩
 ·exact .inl h
 ·exact .inr ⟨p,o,c,ad,af,.inl ax⟩
 ·exact .inr ⟨p,o,c,ad,af,.inr ⟨j,b,aS ax,aO⟩⟩
theorem ayQ{b:az}(h:(b.cells.drop o).take (bR.length*3)=pY bR):bR.length*3<=b.cells.length-o:=by
 have:=congrArg List.length h
 grind[SW]
theorem j3.pE(hO:al H Γ)(h:j3 Γ v bR):sU H 3 bR.length v=some (pY bR):=by
 rcases h with⟨rfl,rfl⟩|⟨p,o,c,rfl,_,rfl|⟨j,b,ax,aO⟩⟩
 ·rfl
 ·rfl
 ·by_cases ao:bR=[]
  ·subst ao;rfl
  ·have aR:0<bR.length:=List.length_pos_iff.2 ao;have aD:=ayQ aO;rw[Ga (hO.at j ax (.inr (fun e=>by grind))) (by omega),aO]
theorem ayR{p o n c:Nat}(aA:c=6\/c=7):hP 3 (aF p o (n+1) c) (some (int 1)) none none=some (aF p (o+3) n c):=by
 have e:Nat.beq (n+1) (n+1)=true:=Nat.beq_refl _;rcases aA with rfl|rfl
 ·rfl
 ·show some (Value.slice (some ⟨p,o+1*3,none⟩) (n+1-1) (cond (false||Nat.beq (n+1) (n+1)) 7 6))=_
  grind
theorem ayS{l jx:List Value}{n:Nat}(h:l.take ((n+1)*3)=q8 f++jx):l.take 3=q8 f/\(l.drop 3).take (n*3)=jx:=by
 have ad:=congrArg (List.take 3) h;have af:=congrArg (List.drop 3) h
 grind[List.drop_take]
theorem j3.cons(h:j3 Γ v (f::bR)):∃p o c,∃(j:Nat) (b:az),v=aF p o (bR.length+1) c/\Γ[j]?=some (p,b)/\(b.cells.drop o).take 3=q8 f/\hP 3 v (some (int 1)) none none=some (aF p (o+3) bR.length c)/\j3 Γ (aF p (o+3) bR.length c) bR:=by
 rcases h with⟨_,h⟩|⟨p,o,c,rfl,aA,h|⟨j,b,ax,aO⟩⟩
 ·cases h
 ·cases h
 ·have bl:=ayS (n:=bR.length) (show(b.cells.drop o).take ((bR.length+1)*3)=q8 f++pY bR from aO);refine⟨p,o,c,j,b,rfl,ax,bl.1,ayR aA,.inr ⟨p,o+3,c,rfl,aA,.inr ⟨j,b,ax,?_⟩⟩⟩
  simp_all
theorem ayT(hO:al H (S++F))(hv:(v=bB/\bR=[])\/((∃p o,v=aF p o bR.length 7)/\j3 S v bR))(ao:j3 S w gs)(aD:bR.length+gs.length<=1000000)
  (ag:∀ab aQ X,al ab ((S++F)++X)->j3 (S++X) aQ (bR++gs)->aa aQ ab):ah (gD 3 24 v w H) aa:=by
 unfold gD;simp only[ao.mZ,ao.bo.pE hO];by_cases aR:gs=[]
 ·subst aR;have U:j3 S v bR:=by
   rcases hv with⟨rfl,rfl⟩|⟨_,h⟩
   ·exact .nil
   ·exact h
  have sw:=ag H v [] (by rw[List.append_nil];exact hO) (by rw[List.append_nil bR];exact U.bo);rcases hv with⟨rfl,rfl⟩|⟨⟨p,o,rfl⟩,_⟩
  ·exact cH rfl sw
  ·exact cH rfl sw
 ·have hg:0<gs.length:=List.length_pos_iff.2 aR;have an:Nat.beq gs.length 0=false:=by grind[Nat.eq_of_beq_eq_true]
  rcases hv with⟨rfl,rfl⟩|⟨⟨p,o,rfl⟩,h⟩
  ·unfold qC;simp only[an,Bool.false_eq_true,if_false];rw[if_pos (wH (by omega) (by omega))];refine cH (show l1 (pY gs) gs.length (2*3) H=some (aF H.next 0 gs.length 6,H.push (pY gs))from rfl) (ag _ _ _ (hO.push (pY gs)) (.inr ⟨H.next,0,6,rfl,.inl rfl,.inr ⟨_,_,aC (k:=0) rfl,?_⟩⟩))
   simp_all[List.take_of_length_le,SW]
  ·unfold qC;simp only[an,Bool.false_eq_true,if_false];rw[if_pos (wH (by omega) (by omega))];rw[if_pos (show Nat.beq 7 (2*3+1)=true from rfl)];unfold yC;have he:=h.bo.pE hO;have xF:(if Nat.beq bR.length 0 then some []else rZ H p o (bR.length*3))=some (pY bR):=he;rw[xF];simp only;rw[iF];refine cH (show l1 (pY bR++pY gs) (bR.length+gs.length) (2*3) H=some (aF H.next 0 (bR.length+gs.length) 6,H.push (pY bR++pY gs))from rfl) (ag _ _ _ (hO.push _) (.inr ⟨H.next,0,6,by simp_all,.inl rfl,.inr ⟨_,_,aC (k:=0) rfl,?_⟩⟩))
   grind[ayP,SW]
theorem af4:P.underlying 24=some (.slice 61):=by rfl
theorem ayU(H:au):(eY P 24 0).f [] H=some (aF H.next 0 0 7,H.push []):=by rfl
theorem ayV(hO:al H (S++F))(hv:j3 S v bR)(aD:bR.length<=100000)(ag:∀ab aQ X,al ab ((S++F)++X)->j3 (S++X) aQ bR->aa aQ ab):wCall P 121 [v] H aa:=by
 apply apI;unfold ZN;have jL:=hv;rcases hv with⟨rfl,rfl⟩|⟨p,o,c,rfl,_⟩
 ·exact ai (Kb af4) (fU rfl (ag H bB [] (by rw[List.append_nil];exact hO) .nil))
 ·refine ai (Kb af4) (eX rfl (ih hO (ayU _) ?_));intro q H hO;rw[List.append_assoc]at hO;refine ayT (bR:=[]) hO (.inr ⟨⟨q,0,rfl⟩,.inr ⟨q,0,7,rfl,.inr rfl,.inl rfl⟩⟩) jL (by grind) ?_;intro ab aQ X iR U;refine ag ab aQ X (iR.sub ?_) U;refine List.Sublist.append_right ?_ X;rw[<- List.append_assoc];exact List.sublist_append_left _ _
theorem af5(hO:al H Γ)(hv:cl Γ v aj)(aD:aj.length<=1000000)(ag:zA Γ aa (nW aj a hr)):wCall P 227 [v,int a,int hr] H aa:=by
 apply aqU;unfold abe;have jG:(a<0\/(aj.length:Int)<=a\/hr<1)->aa bB H:=by intro h;unfold nW at ag;rw[if_pos h]at ag;exact ag.none hO
 refine gb (fun aG ab=>aG=[v,int a,int hr]/\ab=H/\0<=a/\a<aj.length/\1<=hr) ?_ ?_
 ·refine ai gj (bT (fun h=>?_) (fun h=>?_))
  ·exact ai (ju h) (ai mI (fU rfl (jG (.inl h))))
  ·refine cH hv.cG (ai uk (ai (kV h) (bT (fun af=>?_) (fun af=>?_))))
   ·exact ai (ju af) (fU rfl (jG (.inr (.inl af))))
   ·refine ai gj (ai (kV af) (bT (fun ax=>?_) (fun ax=>?_)))
    ·exact jG (.inr (.inr ax))
    ·exact⟨rfl,rfl,by omega,by omega,by omega⟩
 rintro aG ab ⟨rfl,rfl,ad,af,ax⟩
 try simp only[cR,cS]
 unfold nW at ag;rw[if_neg (by omega)]at ag;obtain⟨n,rfl⟩:=Int.eq_ofNat_of_zero_le ad;obtain⟨m,rfl⟩:=Int.eq_ofNat_of_zero_le (show 0<=hr by omega);simp only[Int.ofNat_eq_natCast,Int.toNat_natCast]at*;obtain⟨ev,bn,i1⟩:=KS hv (n:=n) (by omega);refine ai bn ?_;have bQ:=i1 Γ hv;refine cH bQ.cG (cH vy ?_);rw[show min (m:Int) ((aj.drop n).length:Int)=((min m (aj.drop n).length:Nat):Int) by omega];obtain⟨ec,bF,j4⟩:=BE bQ (n:=min m (aj.drop n).length) (by omega);refine ai bF (KO hO (j4 Γ bQ) (by grind) ?_);rw[show(aj.drop n).take (min m (aj.drop n).length)=(aj.drop n).take m by simp_all];exact ag
def fX(cf:Nat)(cW:Value)(du:Nat):List Value:=[vD cf,cW,int du]
theorem af6:dq P 61=q8 ⟨0,0,0⟩:=by rfl
theorem ayW:(di P 61).f []=some (agg (q8 ⟨0,0,0⟩)):=by rfl
theorem ayX(hf:j3 S cW bR)(hO:al H ((S++F)++[(bN,⟨fX cf cW du,true⟩)]))
  (ag:∀ab jS,j3 S jS (hC.next ⟨[],bR,0⟩).2->al ab ((S++F)++[(bN,⟨fX cf jS du,true⟩)])->aa (agg (q8 (hC.next ⟨[],bR,0⟩).1)) ab):wCall P 226 [ak bN 0] H aa:=by
 generalize eD:S++F=Γ at*;apply aqT;unfold abd;rw[af6];refine dT hO ?_;clear hO;intro dL H hO;have aX:∀ {b8} {cW:Value},((Γ++[(bN,(⟨fX cf cW du,true⟩:az))])++b8)[Γ.length+0]?=some (bN,⟨fX cf cW du,true⟩):=aS (aC rfl);refine aY (aZ hO _ aX (v:=cW) rfl (cH hf.cG (ai fz ?_)));cases bR with
 | nil=>
  refine fU (by simp) (ai ayW (gl hO (_+0) (aC rfl) rfl rfl rfl ?_));clear hO;intro H hO
  replace hO:=hO.cy
  exact hi hO (_+0) (aC rfl) rfl (by omega) (ag H cW hf hO.left)
 | cons f bR=>
  refine eX (by rfl) ?_;obtain⟨p,o,c,j,b,rfl,bp,ax,aO,bl⟩:=hf.cons
  replace bp:Γ[j]?=some (p,b):=by grind
  refine aY (aZ hO _ aX (v:=aF p o (bR.length+1) c) rfl (ai (ky (by omega) (by omega)) (jM (ar:=q8 f) hO j (aS (aS bp)) (by simp_all) rfl (by omega) (dT hO ?_))));clear hO;intro t3 H hO;refine gl hO (_+0) (aC rfl) rfl rfl rfl ?_;clear hO;intro H hO
  replace hO:=hO.cy
  refine aY (aZ hO _ (aS aX) (v:=aF p o (bR.length+1) c) rfl (ai aO (aY (fQ hO (Γ.length+0) (aS aX) bl.gd (show 1<3 by omega) (bx:=fX cf (aF p (o+3) bR.length c) du) rfl ?_))));clear hO;intro H hO;rw[List.append_assoc (Γ++_),List.append_assoc Γ,Go.Ab.cy]at hO
  replace hO:al H (Γ++((bN,⟨fX cf (aF p (o+3) bR.length c) du,true⟩)::[(dL,⟨q8 ⟨0,0,0⟩,true⟩),(t3,⟨q8 f,true⟩)])):=hO
  refine hi hO (Γ.length+2) (aC rfl) rfl (by omega) (gl hO (Γ.length+1) (aC rfl) rfl rfl rfl ?_);clear hO;intro H hO;rw[Go.Ab.cy]at hO;refine hi hO (Γ.length+1) (aC rfl) rfl (by omega) (ag H _ bl (hO.sub ?_));exact List.Sublist.append_left (List.Sublist.cons_cons _ (List.nil_sublist _)) Γ
end J
namespace J
open Go Go.Ab
variable[cu:b0]
variable{H:au}{Γ kH b8 S F X N:List (Nat×az)}{aa:VH}{v cW a6:Value}{T ar bx:List Value}{p o n i bN cf du:Nat}{a hr:Int}{aj:List Int}{bR:List pq}{f:pq}{fs k:List UInt8}{off:q7}{bf:hC}
def tD(Γ:List (Nat×az)):List Value->q7->Prop
 | [],[]=>True
 | a6::v::T,o::r=>a6=bZ o.1/\cl Γ v o.2/\ct o.2/\o.2.length<=10000/\tD Γ T r
 | _,_=>False
theorem tD.bo:∀ {T:List Value} {off:q7},tD Γ T off->tD (Γ++b8) T off
 | [],[],_=>trivial
 | a6::v::T,o::r,h=>⟨h.1,h.2.1.bo,h.2.2.1,h.2.2.2.1,h.2.2.2.2.bo⟩
 | [],_::_,h=>h.elim
 | [_],[],h=>h.elim
 | [_],_::_,h=>h.elim
 | _::_::_,[],h=>h.elim
theorem tD.lp:∀ {T:List Value} {off:q7},tD Γ T off->cl Γ v aj->ct aj->aj.length<=10000->tD Γ (T++[bZ k,v]) (off++[(k,aj)])
 | [],[],_,ad,af,ax=>⟨rfl,ad,af,ax,trivial⟩
 | a6::v::T,o::r,h,ad,af,ax=>⟨h.1,h.2.1,h.2.2.1,h.2.2.2.1,h.2.2.2.2.lp ad af ax⟩
 | [],_::_,h,_,_,_=>h.elim
 | [_],[],h,_,_,_=>h.elim
 | [_],_::_,h,_,_,_=>h.elim
 | _::_::_,[],h,_,_,_=>h.elim
theorem ayY(a b:List UInt8):CK true (bZ a) (bZ b)=some (decide (a=b)):=by
 have h:CK true (bZ a) (bZ b)=some (a.toArray==b.toArray):=rfl;rw[h];congr 1
 grind
theorem tD.SX:∀ {T:List Value} {off:q7},tD Γ T off->(k:List UInt8)->(w3 off k=none/\wb true (bZ k) T=some none)\/∃bs v,w3 off k=some bs/\wb true (bZ k) T=some (some v)/\cl Γ v bs/\ct bs/\bs.length<=10000
 | [],[],_,_=>.inl ⟨rfl,rfl⟩
 | a6::v::T,o::r,⟨ad,af,ax,aO,bl⟩,k=>by
  subst ad;unfold w3 wb;rw[ayY];by_cases ag:k=o.1
  ·grind
  ·rw[decide_eq_false ag,if_neg (fun h=>ag h.symm)];exact bl.SX k
 | [],_::_,h,_=>h.elim
 | [_],[],h,_=>h.elim
 | [_],_::_,h,_=>h.elim
 | _::_::_,[],h,_=>h.elim
structure pZ (S:List (Nat×az)) (cf:Nat) (cW:Value) (n:hC):Prop where
 of:∃T,eH cu.l cf=some (jU T)/\tD S T n.off
 bR:j3 S cW n.bR
 Cf:∀f∈n.bR,f.v<256
theorem pZ.bo(h:pZ S cf cW bf):pZ (S++X) cf cW bf:=by obtain⟨⟨T,ad,af⟩,ax,aO⟩:=h;exact⟨⟨T,ad,af.bo⟩,ax.bo,aO⟩
theorem HA:Go.Ab.As P 174=some (true,22):=by rfl
theorem L7:h3 P 22=some bB:=by rfl
theorem EM(h:al H ((((S++F)++kH)++b8)++N)):al H (((S++N)++F)++kH):=
 af2 (h.sub (b8:=((S++F)++kH)++N) (List.Sublist.append_right (List.sublist_append_left _ _) N))
theorem ct.cut(h:ct aj):ct (nW aj a hr):=by
 unfold nW;split
 ·simp[ct]
 ·exact fun x ao=>h x (List.mem_of_mem_drop (List.mem_of_mem_take ao))
theorem ayZ(h:∀g∈bR,g.v<256):(hC.next ⟨[],bR,0⟩).1.v<256/\∀g∈(hC.next ⟨[],bR,0⟩).2,g.v<256:=by grind[hC.next]
theorem ay0(n:hC):n.next=hC.next ⟨[],n.bR,0⟩:=rfl
theorem af7:(nW aj a hr).length<=aj.length:=by
 unfold nW
 grind
theorem fI.set{i:Nat}{y:Int}(h:fI v aj ar)(aq:i<aj.length):fI v (aj.set i y) (ar.set i (.int .u8 y)):=by
 rcases h with⟨rfl,rfl,rfl⟩|⟨p,ad,af,ax,aO⟩
 ·simp at aq
 ·refine .inr ⟨p,by simp_all,?_,by simp_all,?_⟩
  ·simp_all[List.take_set]
  ·rw[List.all_eq_true];intro x ao;rcases List.mem_or_eq_of_mem_set ao with h|rfl
   ·simp_all
   ·rfl
theorem fI.ak(h:fI v aj ar)(ao:aj≠[]):∃p c,v=aF p 0 aj.length c/\(c=2\/c=3)/\b2 v ar=[(p,⟨ar,true⟩)]:=by
 rcases h with⟨_,rfl,_⟩|⟨p,rfl|⟨rfl,_⟩,_⟩
 ·simp_all
 ·exact⟨p,2,rfl,.inl rfl,rfl⟩
 ·exact⟨p,3,rfl,.inr rfl,rfl⟩
theorem fI.at(h:fI v aj ar){i:Nat}(aq:i<aj.length):ar[i]?=some (.int .u8 aj[i]):=by
 rcases h with⟨_,rfl,_⟩|⟨p,_,af,_⟩
 ·simp at aq
 ·have:=congrArg (·[i]?) af
  grind
theorem af8(h:j3 S cW bR):(fX cf cW du).all fH=true:=by show(fH (vD cf)&&(fH cW&&(fH (int du)&&true)))=true;rw[h.sF];rfl
theorem ay1(bc:pZ S cf cW bf)(aD:fs.length<=1000000)(aA:bf.du<=1000000)(hO:al H ((S++F)++[(bN,⟨fX cf cW bf.du,true⟩)]))
  (ag:∀ab aQ jS X,cl (S++X) aQ (bf.mS fs a hr).1.1->ct (bf.mS fs a hr).1.1->(bf.mS fs a hr).1.1.length<=10000->((bf.mS fs a hr).1.1≠[]->pR (S++X) aQ)->pZ (S++X) cf jS (bf.mS fs a hr).2->
   al ab (((S++X)++F)++[(bN,⟨fX cf jS (bf.mS fs a hr).2.du,true⟩)])->aa (.tuple [aQ,int (bf.mS fs a hr).1.2].toArray) ab):wCall P 187 [ak bN 0,bZ fs,int a,int hr] H aa:=by
 apply aqs;unfold aaI;obtain⟨⟨T,bk,SY⟩,vX,Bs⟩:=bc;refine aY (aZ hO ((S++F).length+0) (aC rfl) (v:=vD cf) rfl (LB aD (⟨ha hO ((S++F).length+0) (aC rfl) hO ((S++F).length+0) (aC rfl) (af8 vX),?_⟩)));unfold hC.mS at ag;rcases SY.SX (mx fs)with⟨bn,bF⟩|⟨all,av,bn,bF,af9,aga,th⟩
 ·rw[bn]at ag;exact Ke hO bk HA L7 bF (ai km (ai kn (ai jt (fU rfl (ag H bB cW [] .nil (by simp[ct]) (by simp) (fun h=>absurd rfl h) (by rw[List.append_nil];exact⟨⟨T,bk,SY⟩,vX,Bs⟩) (by rw[List.append_nil];exact hO))))))
 rw[bn]at ag;simp only[ay0 bf]at ag;refine Ke hO bk HA L7 bF (ai km (ai kn (ai jt (eX rfl ?_))));show ae _ _;refine aY (aZ hO ((S++F).length+0) (aC rfl) (v:=int bf.du) rfl (ai (v:=int ((bf.du+1:Nat):Int)) (by grind[mn]) (aY (tC hO rfl (show 2<3 by omega) (bx:=fX cf cW (bf.du+1)) rfl ?_))));clear hO;intro H hO;refine ayX vX hO ?_;clear hO;obtain⟨jZ,kl⟩:=ayZ Bs;generalize hf:(hC.next ⟨[],bf.bR,0⟩).1=f at ag jZ;generalize U:(hC.next ⟨[],bf.bR,0⟩).2=r at ag kl;intro H jS vo hO;have Cg:∀X,pZ (S++X) cf jS ⟨bf.off,r,bf.du+1⟩:=fun X=>pZ.bo ⟨⟨T,bk,SY⟩,vo,kl⟩
 rw[af6];refine dT hO ?_;clear hO;intro L8 H hO;refine gl hO (_+0) (aC rfl) rfl rfl rfl ?_;clear hO;intro H hO
 replace hO:=hO.cy
 replace hO:al H (((S++F)++[(bN,⟨fX cf jS (bf.du+1),true⟩)])++[(L8,⟨q8 f,true⟩)]):=hO
 have pj:∀ {b8},((((S++F)++[(bN,(⟨fX cf jS (bf.du+1),true⟩:az))])++[(L8,(⟨q8 f,true⟩:az))])++b8)[((S++F)++[(bN,(⟨fX cf jS (bf.du+1),true⟩:az))]).length+0]?=some (L8,⟨q8 f,true⟩):=aS (aC rfl);refine af5 hO (af9.bo.bo.bo) (by omega) ?_;have G4:ct (nW all a hr):=aga.cut;have rn:(nW all a hr).length<=10000:=Nat.le_trans af7 th;have pL:=hO;clear hO;intro H ev oh hO uS;refine ai ed (aZ hO _ pj (v:=int f.js) rfl (ai fz ?_));unfold pX at ag;refine bT (fun h=>?_) (fun h=>?_)
 ·rw[if_pos h]at ag;exact ag H bB jS [] .nil (by simp[ct]) (by simp) (fun h=>absurd rfl h) (Cg []) (by rw[List.append_nil];exact hO.left.left)
 rw[if_neg h]at ag;refine ai fz (bT (fun h=>?_) (fun h=>?_))
 ·rw[if_pos h]at ag;refine cH uS.cG (ai sl ?_);unfold afX at ag;by_cases ao:nW all a hr=[]
  ·rw[if_pos ao]at ag;exact tb (by grind) (ag H ev jS _ (uS.lR.jv) G4 rn (fun h=>absurd ao h) (Cg _) (EM hO))
  ·rw[if_neg ao]at ag;have aR:0<(nW all a hr).length:=List.length_pos_iff.2 ao;refine nK (by omega) ?_;generalize aCI:nW all a hr=cx at*;obtain⟨p,c,rfl,AU,ay2⟩:=fI.ak uS ao;refine ai ed (aZ hO _ pj (v:=int f.uc) rfl (cH zd (cH uS.cG ?_)));obtain⟨cL,Dj⟩:=Int.eq_ofNat_of_zero_le (show 0<=max f.uc 0 by omega);rw[Dj]at ag⊢;simp only[Int.ofNat_eq_natCast,Int.toNat_natCast]at ag⊢;have ea:cL%cx.length<cx.length:=Nat.mod_lt _ aR;refine ai (v:=int ((cL%cx.length:Nat):Int)) (Hf aR) (ai (ky (by omega) (by omega)) ?_);rw[ay2]at hO;have n7:=fI.at uS ea;have vf:=G4 _ (List.getElem_mem ea);have agb:cx[cL%cx.length]=((cx[cL%cx.length].toNat:Nat):Int):=by omega
   refine aZ hO (_+0) (aC rfl) (v:=bS .u8 (cx[cL%cx.length].toNat)) (by show oh[0+((cL%cx.length:Nat):Int).toNat*1]?=some (Value.int .u8 ((cx[cL%cx.length].toNat:Nat):Int));rw[<- agb,<- n7,Int.toNat_natCast,Nat.zero_add,Nat.mul_one]) ?_;refine ai ed (aZ hO _ pj (v:=bS .u8 f.v) rfl (ai (nM rfl (show _<256 by omega) (show _<256 from jZ)) (ai (ky (by omega) (by omega)) ?_)));rw[List.getD_eq_getElem?_getD,List.getElem?_eq_getElem ea,Option.getD_some]at ag;have aw:=fI.set uS (y:=((cx[cL%cx.length].toNat ^^^ f.v:Nat):Int)) ea;have WV:cx[cL%cx.length].toNat ^^^ f.v<256:=Nat.xor_lt_two_pow (n:=8) (by omega) jZ;have aCJ:cL%cx.length<oh.length:=(List.getElem?_eq_some_iff.1 n7).1;refine fQ hO (_+0) (aC rfl) rfl (show 0+((cL%cx.length:Nat):Int).toNat*1<oh.length by omega) (bx:=oh.set (cL%cx.length) (.int .u8 ((cx[cL%cx.length].toNat ^^^ f.v:Nat):Int))) (by rw[Int.toNat_natCast,Nat.zero_add,Nat.mul_one]) ?_;intro ab iR;rw[Go.Ab.cy]at iR;have dd:al ab ((((S++F)++[(bN,⟨fX cf jS (bf.du+1),true⟩)])++[(L8,⟨q8 f,true⟩)])++b2 (aF p 0 cx.length c) (oh.set (cL%cx.length) (.int .u8 ((cx[cL%cx.length].toNat ^^^ f.v:Nat):Int)))):=iR;exact ag ab _ jS _ (aw.lR.jv) (by
    intro x ao;rcases List.mem_or_eq_of_mem_set ao with h|rfl
    ·grind
    ·omega) (by grind) (fun _=>(fI.uF aw).jv) (Cg _) (EM dd)
 rw[if_neg h]at ag;refine ai fz (bT (fun h=>?_) (fun h=>?_))
 ·rw[if_pos h]at ag;refine ai ed (aZ hO _ pj (v:=int f.uc) rfl (cH uS.cG (cH vy (cH zd ?_))));obtain⟨t,ht⟩:=Int.eq_ofNat_of_zero_le (show 0<=max 0 (min f.uc ((nW all a hr).length:Int)) by omega);rw[ht]at ag⊢;simp only[Int.ofNat_eq_natCast,Int.toNat_natCast]at ag⊢;obtain⟨ec,bF,j4⟩:=BE uS.lR (n:=t) (by omega);exact ai bF (ag H ec jS _ ((j4 _ uS.lR).jv) (fun x ao=>G4 x (List.mem_of_mem_take ao)) (by rw[List.length_take];omega) (fun _=>((fI.uF uS).slice bF).jv) (Cg _) (EM hO))
 rw[if_neg h]at ag;refine ai fz (bT (fun h=>?_) (fun h=>?_))
 ·rw[if_pos h]at ag;refine ai ed (aZ hO _ pj (v:=int f.uc) rfl (af5 hO.left (af9.bo.bo.bo) (by omega) ?_));intro cD ec l4 dd agc;exact ag cD ec jS _ (agc.lR.jv) aga.cut (Nat.le_trans af7 th) (fun _=>(fI.uF agc).jv) (Cg _) (EM dd)
 ·rw[if_neg h]at ag;exact ag H ev jS _ (uS.lR.jv) G4 rn (fun _=>(fI.uF uS).jv) (Cg _) (EM hO)
end J
