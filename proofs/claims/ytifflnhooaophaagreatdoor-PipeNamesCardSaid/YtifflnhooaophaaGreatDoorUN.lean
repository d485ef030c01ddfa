/- texts of the pv, gd behind the oq -/
import Derived.Test.YtifflnhooaophaaGreatDoorUM
set_option linter.unusedVariables false
set_option linter.unusedSimpArgs false
set_option linter.unusedSectionVars false
set_option maxHeartbeats 8000000
set_option maxRecDepth 100000
namespace J
open Go Go.Ab
variable[cu:b0]
variable{H:au}{Γ b8 S F X G:List (Nat×az)}{aa:VH}{v w cW:Value}{bx:List Value}{r n f j N b6 bN cf:Nat}{s:gK}{m:bt}{L:lG}{bf:hC}
structure w9 where
 key:List Int
 cz:List UInt8
 yw:Int
 gq:Int
 Cl:Int
 azF:Int
 dS:Int
structure uU where
 ka:Int
 aF:Int
 fs:List UInt8
 c6:Nat
def lr(c:w9)(a6:Value):List Value:=[a6,bZ c.cz,int c.yw,int c.gq,int c.Cl,int c.azF,int c.dS]
def mc(j:uU):List Value:=[int j.ka,int j.aF,bZ j.fs,bS .u64 j.c6]
def xa(c:w9)(j:uU):dV:=⟨j.fs,(max 0 (min c.yw 100)).toNat,none,-1,0⟩
def Md(c:w9)(j:uU)(s:gK)(m:bt)(bf:hC):dY:=
 {l:=xa c j
  c:={key:=c.key,t:=⟨c.cz,j.c6,64*(m.size (s.part j.aF):Int)⟩,er:=[],cU:=[],e7:=[],bN:=e6 c.gq,gH:=e6 c.gq,aW:=eW,aw:=none,cZ:=false,bu:=0}
  w:={s:=s,cA:=s.ig,dh:=j.aF,q:=[],aW:=eW,ez:=0,fM:=[],wr:=0,dx:=0,bu:=0,m:=m}
  bf:=bf
  d:=⟨0,max 1 (min c.Cl 1000000),[0,0,0]⟩
  st:=1
  hs:=0}
theorem azG(b6 t:Nat):(di P 157).f [(0,ak b6 0),(1,bS .u64 t),(9,int 1)]=some (agg [ak b6 0,bS .u64 t,.pointer none,.pointer none,.pointer none,.pointer none,.pointer none,.pointer none,.pointer none,int 1,int 0]):=by rfl
theorem azH(l:List UInt8)(f:Nat)(r:Int):(di P 94).f [(0,bZ l),(1,bS .u64 f),(2,int r)]=some (agg (rO ⟨l,f,r⟩)):=by rfl
theorem azI(bN bQ cE:Nat)(l:List UInt8)(t:Int):(di P 244).f [(0,ak bN 0),(1,bZ l),(2,int t),(3,ak bQ 0),(4,ak cE 0),(6,int (-1))]=some (agg [ak bN 0,bZ l,int t,ak bQ 0,ak cE 0,.pointer none,int (-1),int 0]):=by rfl
theorem azJ{bQ cE:Nat}{c:w9}{cj:uU}(hO:al H Γ)(ag:∀ab dg,al ab (Γ++[(dg,⟨gC bN bQ cE (xa c cj) (.pointer none),true⟩)])->aa (ak dg 0) ab):wCall P 80 [ak bN 0,bZ cj.fs,int c.yw,ak bQ 0,ak cE 0] H aa:=by apply apl;unfold Zp;refine cH vy (cH zd (ai (azI _ _ _ _ _) (dT hO ?_)));clear hO;intro dg H hO;refine ag H dg ?_;unfold gC xa;simp only;rw[Int.toNat_of_nonneg (by omega)];exact hO
theorem agv{c:w9}{a6:Value}(h:cl S a6 c.key):(lr c a6).all fH=true:=by show(fH a6&&_)=true;rw[cl.fv h];rfl
theorem azK{c:w9}{a6:Value}(h:cl S a6 c.key):(lr c a6).all eP=true:=by show(eP a6&&_)=true;rw[cl.agk h];rfl
theorem Tp{c:w9}{cj:uU}{a6:Value}(rB:cl S a6 c.key)(xG:ct c.key)(kF:c.key.length<=1000000)(nF:c.cz.length<=1000000)(CY:cj.fs.length<=1000000)(hg:s.ig<1000)(aw:s.b1)(aV:pn m)(yx:lk L m)(rV:m.hR N)(eU:m.size ((s.gR cj.ka cj.aF).2.2.part cj.aF)<=100000)(sv:pZ S cf cW bf)(KC:bf.du<=N)
  (hO:al H (((S++F)++((bN,⟨fX cf cW bf.du,true⟩)::dQ L m))++[(b6,⟨fr s L.cV,true⟩)]))
  (eT:(s.gR cj.ka cj.aF).2.1≠0->∀ab,al ab (((S++F)++((bN,⟨fX cf cW bf.du,true⟩)::dQ L m))++[(b6,⟨fr (s.gR cj.ka cj.aF).2.2 L.cV,true⟩)])->aa (.tuple [.pointer none,int (s.gR cj.ka cj.aF).2.1].toArray) ab)
  (ph:(s.gR cj.ka cj.aF).2.1=0->∀ab q X,q.bN=bN->q.cf=cf->q.b6=b6->q.L=L->en ab (S++X) F q (Md c cj (s.gR cj.ka cj.aF).2.2 m bf) N->aa (.tuple [ak q.dU 0,int 0].toArray) ab):
  wCall P 27 [agg (lr c a6),ak bN 0,ak b6 0,agg (mc cj)] H aa:=by
 apply aoE;unfold YE;obtain⟨ra,ew,ns,rfl⟩:=rB.lC;refine dT hO ?_;clear hO;intro t4 H hO;refine dT hO ?_;clear hO;intro hI H hO;have eD:∃G,G=(S++F)++((bN,(⟨fX cf cW bf.du,true⟩:az))::dQ L m):=⟨_,rfl⟩;obtain⟨G,eD⟩:=eD;rw[<- eD]at eT hO
 replace hO:al H ((G++[(b6,⟨fr s L.cV,true⟩)])++[(t4,⟨lr c (.slice ra ew ns),true⟩),(hI,⟨mc cj,true⟩)]):=hO.fP (iD fun p=>by
  show List.countP p (((G++[(b6,(⟨fr s L.cV,true⟩:az))])++[(t4,⟨lr c (.slice ra ew ns),true⟩)])++[(hI,⟨mc cj,true⟩)])=_
  simp_all)
 refine ai ed (aZ hO ((G++[(b6,(⟨fr s L.cV,true⟩:az))]).length+1) (aC rfl) (v:=int cj.ka) rfl (ai ed (aZ hO ((G++[(b6,(⟨fr s L.cV,true⟩:az))]).length+1) (aC rfl) (v:=int cj.aF) rfl (ax2 hg hO ?_))));clear hO;intro H hO;refine ai km (ai kn (ai jh (bT (fun h=>?_) (fun h=>?_))))
 ·exact eT h H hO.left
 have aR:(s.gR cj.ka cj.aF).2.1=0:=by omega
 have x4:(s.gR cj.ka cj.aF).1=(s.gR cj.ka cj.aF).2.2.ig/\(s.gR cj.ka cj.aF).2.2.b1:=by
  unfold gK.gR at aR⊢;split
  ·simp_all
  ·rename_i a7;rw[if_neg a7]at aR;split
   ·simp_all
   ·exact⟨rfl,⟨by simp_all,aw.p⟩⟩
 have ph:=ph aR;generalize (s.gR cj.ka cj.aF).1=pk at*;generalize (s.gR cj.ka cj.aF).2.2=cm at*;obtain⟨x4,vn⟩:=x4;subst x4;clear eT h;refine ai (azG _ _) (dT hO ?_);clear hO;intro dU H hO
 replace hO:al H (G++[(b6,⟨fr cm L.cV,true⟩),(t4,⟨lr c (.slice ra ew ns),true⟩),(hI,⟨mc cj,true⟩),(dU,⟨[ak b6 0,bS .u64 cm.ig,.pointer none,.pointer none,.pointer none,.pointer none,.pointer none,.pointer none,.pointer none,int 1,int 0],true⟩)]):=hO.fP (iD fun p=>by
  show List.countP p (((G++[(b6,(⟨fr cm L.cV,true⟩:az))])++[(t4,⟨lr c (.slice ra ew ns),true⟩),(hI,⟨mc cj,true⟩)])++[(dU,⟨[ak b6 0,bS .u64 cm.ig,.pointer none,.pointer none,.pointer none,.pointer none,.pointer none,.pointer none,.pointer none,int 1,int 0],true⟩)])=_
  simp_all)
 have Me:=agv (c:=c) rB;refine ai ed (aZ hO (G.length+1) (aC rfl) (v:=int c.gq) rfl ?_);have pL:=hO;refine av2 hO ?_;clear hO;intro H k3 hc oQ hA hO;refine ai ed (aZ hO (G.length+1) (aC rfl) (v:=int c.gq) rfl (⟨ha pL (G.length+1) (aC rfl) hO (G.length+1) (aC rfl) Me,?_⟩));have dJ:=hO;refine aeT hO ?_;clear hO;intro H k4 fc pr ck hO;refine ai ed (aZ hO (G.length+1) (aC rfl) (v:=int c.gq) rfl (⟨ha dJ (G.length+1) (aC rfl) hO (G.length+1) (aC rfl) Me,ha pL (G.length+1) (aC rfl) dJ (G.length+1) (aC rfl) Me,?_⟩));clear pL dJ;refine aeT hO ?_;clear hO;intro H k5 c1 om jO hO
 replace hO:al H (G++[(b6,⟨fr cm L.cV,true⟩),(t4,⟨lr c (.slice ra ew ns),true⟩),(hI,⟨mc cj,true⟩),(dU,⟨[ak b6 0,bS .u64 cm.ig,.pointer none,.pointer none,.pointer none,.pointer none,.pointer none,.pointer none,.pointer none,int 1,int 0],true⟩),(k3,⟨oQ,true⟩),(hc,⟨c8 k3 (e6 c.gq) 2 0 0,true⟩),(k4,⟨pr,true⟩),(fc,⟨c8 k4 (e6 c.gq) 1 0 0,true⟩),(k5,⟨om,true⟩),(c1,⟨c8 k5 (e6 c.gq) 1 0 0,true⟩)]):=hO
 refine aY (fQ hO (G.length+3) (aC rfl) rfl (show 2<11 by omega) (bx:=[ak b6 0,bS .u64 cm.ig,ak hc 0,.pointer none,.pointer none,.pointer none,.pointer none,.pointer none,.pointer none,int 1,int 0]) rfl ?_);clear hO;intro H hO;rw[Go.Ab.cy]at hO;refine aY (fQ hO (G.length+3) (aC rfl) rfl (show 3<11 by omega) (bx:=[ak b6 0,bS .u64 cm.ig,ak hc 0,ak fc 0,.pointer none,.pointer none,.pointer none,.pointer none,.pointer none,int 1,int 0]) rfl ?_);clear hO;intro H hO;rw[Go.Ab.cy]at hO;refine aY (fQ hO (G.length+3) (aC rfl) rfl (show 4<11 by omega) (bx:=[ak b6 0,bS .u64 cm.ig,ak hc 0,ak fc 0,ak c1 0,.pointer none,.pointer none,.pointer none,.pointer none,int 1,int 0]) rfl ?_);clear hO;intro H hO;rw[Go.Ab.cy]at hO
 replace hO:al H (G++[(b6,⟨fr cm L.cV,true⟩),(t4,⟨lr c (.slice ra ew ns),true⟩),(hI,⟨mc cj,true⟩),(dU,⟨[ak b6 0,bS .u64 cm.ig,ak hc 0,ak fc 0,ak c1 0,.pointer none,.pointer none,.pointer none,.pointer none,int 1,int 0],true⟩),(k3,⟨oQ,true⟩),(hc,⟨c8 k3 (e6 c.gq) 2 0 0,true⟩),(k4,⟨pr,true⟩),(fc,⟨c8 k4 (e6 c.gq) 1 0 0,true⟩),(k5,⟨om,true⟩),(c1,⟨c8 k5 (e6 c.gq) 1 0 0,true⟩)]):=hO
 refine ai ed (aZ hO (G.length+1) (aC rfl) (v:=bZ c.cz) rfl (ai ed (aZ hO (G.length+2) (aC rfl) (v:=bS .u64 cj.c6) rfl (ai ed (aZ hO (G.length+2) (aC rfl) (v:=int cj.aF) rfl ?_)))));have dJ:al H (((S++F)++((bN,(⟨fX cf cW bf.du,true⟩:az))::[(b6,⟨fr cm L.cV,true⟩),(t4,⟨lr c (.slice ra ew ns),true⟩),(hI,⟨mc cj,true⟩),(dU,⟨[ak b6 0,bS .u64 cm.ig,ak hc 0,ak fc 0,ak c1 0,.pointer none,.pointer none,.pointer none,.pointer none,int 1,int 0],true⟩),(k3,⟨oQ,true⟩),(hc,⟨c8 k3 (e6 c.gq) 2 0 0,true⟩),(k4,⟨pr,true⟩),(fc,⟨c8 k4 (e6 c.gq) 1 0 0,true⟩),(k5,⟨om,true⟩),(c1,⟨c8 k5 (e6 c.gq) 1 0 0,true⟩)]))++dQ L m):=by rw[eD]at hO;exact hO.fP (iD fun p=>by simp only[List.countP_append,List.countP_cons,List.countP_nil];omega)
 have i1:((S++F)++((bN,(⟨fX cf cW bf.du,true⟩:az))::[(b6,⟨fr cm L.cV,true⟩),(t4,⟨lr c (.slice ra ew ns),true⟩),(hI,⟨mc cj,true⟩),(dU,⟨[ak b6 0,bS .u64 cm.ig,ak hc 0,ak fc 0,ak c1 0,.pointer none,.pointer none,.pointer none,.pointer none,int 1,int 0],true⟩),(k3,⟨oQ,true⟩),(hc,⟨c8 k3 (e6 c.gq) 2 0 0,true⟩),(k4,⟨pr,true⟩),(fc,⟨c8 k4 (e6 c.gq) 1 0 0,true⟩),(k5,⟨om,true⟩),(c1,⟨c8 k5 (e6 c.gq) 1 0 0,true⟩)]))[(S++F).length+1]?=some (b6,⟨fr cm L.cV,true⟩):=aC rfl;refine Sl dJ i1 ?_;intro cD dd
 replace dd:al cD (G++[(b6,⟨fr cm L.cV,true⟩),(t4,⟨lr c (.slice ra ew ns),true⟩),(hI,⟨mc cj,true⟩),(dU,⟨[ak b6 0,bS .u64 cm.ig,ak hc 0,ak fc 0,ak c1 0,.pointer none,.pointer none,.pointer none,.pointer none,int 1,int 0],true⟩),(k3,⟨oQ,true⟩),(hc,⟨c8 k3 (e6 c.gq) 2 0 0,true⟩),(k4,⟨pr,true⟩),(fc,⟨c8 k4 (e6 c.gq) 1 0 0,true⟩),(k5,⟨om,true⟩),(c1,⟨c8 k5 (e6 c.gq) 1 0 0,true⟩)]):=by rw[eD];exact dd.fP (iD fun p=>by simp only[List.countP_append,List.countP_cons,List.countP_nil];omega)
 refine⟨ha hO (G.length+2) (aC rfl) dd (G.length+2) (aC rfl) rfl,ha hO (G.length+1) (aC rfl) dd (G.length+1) (aC rfl) Me,?_⟩;clear hO dJ i1;rename_i bw;clear bw;refine ai (v:=int (64*(m.size (cm.part cj.aF):Int))) (by grind[zc]) (ai (azH _ _ _) (dT dd ?_));clear dd;intro mV H hO;refine gl hO (_+0) (aC rfl) (by rfl) rfl rfl ?_;clear hO;intro H hO
 replace hO:=hO.cy
 replace hO:al H ((G++[(b6,⟨fr cm L.cV,true⟩),(t4,⟨lr c (.slice ra ew ns),true⟩),(hI,⟨mc cj,true⟩),(dU,⟨[ak b6 0,bS .u64 cm.ig,ak hc 0,ak fc 0,ak c1 0,.pointer none,.pointer none,.pointer none,.pointer none,int 1,int 0],true⟩),(k3,⟨oQ,true⟩),(hc,⟨c8 k3 (e6 c.gq) 2 0 0,true⟩),(k4,⟨pr,true⟩),(fc,⟨c8 k4 (e6 c.gq) 1 0 0,true⟩),(k5,⟨om,true⟩),(c1,⟨c8 k5 (e6 c.gq) 1 0 0,true⟩)])++[(mV,⟨rO ⟨c.cz,cj.c6,64*(m.size (cm.part cj.aF):Int)⟩,true⟩)]):=hO
 rw[List.append_assoc]at hO;refine ai ed (aZ hO (G.length+2) (aC rfl) (v:=bZ cj.fs) rfl (ai ed (aZ hO (G.length+1) (aC rfl) (v:=int c.yw) rfl (aY (aZ hO (G.length+3) (aC rfl) (v:=ak hc 0) rfl (aY (aZ hO (G.length+3) (aC rfl) (v:=ak fc 0) rfl (azJ hO ?_))))))));clear hO;intro H dg hO;rw[List.append_assoc]at hO;refine aY (fQ hO (G.length+3) (aC rfl) rfl (show 5<11 by omega) (bx:=[ak b6 0,bS .u64 cm.ig,ak hc 0,ak fc 0,ak c1 0,ak dg 0,.pointer none,.pointer none,.pointer none,int 1,int 0]) rfl ?_);clear hO;intro H hO;rw[Go.Ab.cy]at hO
 replace hO:al H (G++[(b6,⟨fr cm L.cV,true⟩),(t4,⟨lr c (.slice ra ew ns),true⟩),(hI,⟨mc cj,true⟩),(dU,⟨[ak b6 0,bS .u64 cm.ig,ak hc 0,ak fc 0,ak c1 0,ak dg 0,.pointer none,.pointer none,.pointer none,int 1,int 0],true⟩),(k3,⟨oQ,true⟩),(hc,⟨c8 k3 (e6 c.gq) 2 0 0,true⟩),(k4,⟨pr,true⟩),(fc,⟨c8 k4 (e6 c.gq) 1 0 0,true⟩),(k5,⟨om,true⟩),(c1,⟨c8 k5 (e6 c.gq) 1 0 0,true⟩),(mV,⟨rO ⟨c.cz,cj.c6,64*(m.size (cm.part cj.aF):Int)⟩,true⟩),(dg,⟨gC bN hc fc (xa c cj) (.pointer none),true⟩)]):=hO
 refine ai ed (aZ hO (G.length+1) (aC rfl) (v:=.slice ra ew ns) rfl (hi hO (G.length+10) (aC rfl) (n:=3) rfl (by omega) (aY (aZ hO (G.length+3) (aC rfl) (v:=ak hc 0) rfl (aY (aZ hO (G.length+3) (aC rfl) (v:=ak fc 0) rfl (aY (aZ hO (G.length+3) (aC rfl) (v:=ak c1 0) rfl (awD (key:=c.key) (t:=⟨c.cz,cj.c6,64*(m.size (cm.part cj.aF):Int)⟩) hO (by rw[eD];exact rB.bo.bo.bo) kF ?_)))))))));clear hO;intro H oR yy aE hO LM
 replace hO:al H ((G++b2 oR yy)++[(b6,⟨fr cm L.cV,true⟩),(t4,⟨lr c (.slice ra ew ns),true⟩),(hI,⟨mc cj,true⟩),(dU,⟨[ak b6 0,bS .u64 cm.ig,ak hc 0,ak fc 0,ak c1 0,ak dg 0,.pointer none,.pointer none,.pointer none,int 1,int 0],true⟩),(k3,⟨oQ,true⟩),(hc,⟨c8 k3 (e6 c.gq) 2 0 0,true⟩),(k4,⟨pr,true⟩),(fc,⟨c8 k4 (e6 c.gq) 1 0 0,true⟩),(k5,⟨om,true⟩),(c1,⟨c8 k5 (e6 c.gq) 1 0 0,true⟩),(mV,⟨rO ⟨c.cz,cj.c6,64*(m.size (cm.part cj.aF):Int)⟩,true⟩),(dg,⟨gC bN hc fc (xa c cj) (.pointer none),true⟩),(aE,⟨fe oR ⟨c.cz,cj.c6,64*(m.size (cm.part cj.aF):Int)⟩ hc fc c1 eW bB (.pointer none) false 0,true⟩)]):=hO.fP (iD fun p=>by simp only[List.countP_append,List.countP_cons,List.countP_nil];omega)
 generalize azL:G++b2 oR yy=oS at*;refine aY (fQ hO (oS.length+3) (aC rfl) rfl (show 6<11 by omega) (bx:=[ak b6 0,bS .u64 cm.ig,ak hc 0,ak fc 0,ak c1 0,ak dg 0,ak aE 0,.pointer none,.pointer none,int 1,int 0]) rfl ?_);clear hO;intro H hO;rw[Go.Ab.cy]at hO
 replace hO:al H (oS++[(b6,⟨fr cm L.cV,true⟩),(t4,⟨lr c (.slice ra ew ns),true⟩),(hI,⟨mc cj,true⟩),(dU,⟨[ak b6 0,bS .u64 cm.ig,ak hc 0,ak fc 0,ak c1 0,ak dg 0,ak aE 0,.pointer none,.pointer none,int 1,int 0],true⟩),(k3,⟨oQ,true⟩),(hc,⟨c8 k3 (e6 c.gq) 2 0 0,true⟩),(k4,⟨pr,true⟩),(fc,⟨c8 k4 (e6 c.gq) 1 0 0,true⟩),(k5,⟨om,true⟩),(c1,⟨c8 k5 (e6 c.gq) 1 0 0,true⟩),(mV,⟨rO ⟨c.cz,cj.c6,64*(m.size (cm.part cj.aF):Int)⟩,true⟩),(dg,⟨gC bN hc fc (xa c cj) (.pointer none),true⟩),(aE,⟨fe oR ⟨c.cz,cj.c6,64*(m.size (cm.part cj.aF):Int)⟩ hc fc c1 eW bB (.pointer none) false 0,true⟩)]):=hO
 refine ai ed (aZ hO (oS.length+2) (aC rfl) (v:=int cj.aF) rfl (aY (aZ hO (oS.length+3) (aC rfl) (v:=ak c1 0) rfl (ax6 hO ?_))));clear hO;intro H qw hO;rw[List.append_assoc]at hO;refine aY (fQ hO (oS.length+3) (aC rfl) rfl (show 7<11 by omega) (bx:=[ak b6 0,bS .u64 cm.ig,ak hc 0,ak fc 0,ak c1 0,ak dg 0,ak aE 0,ak qw 0,.pointer none,int 1,int 0]) rfl ?_);clear hO;intro H hO;rw[Go.Ab.cy]at hO
 replace hO:al H (oS++[(b6,⟨fr cm L.cV,true⟩),(t4,⟨lr c (.slice ra ew ns),true⟩),(hI,⟨mc cj,true⟩),(dU,⟨[ak b6 0,bS .u64 cm.ig,ak hc 0,ak fc 0,ak c1 0,ak dg 0,ak aE 0,ak qw 0,.pointer none,int 1,int 0],true⟩),(k3,⟨oQ,true⟩),(hc,⟨c8 k3 (e6 c.gq) 2 0 0,true⟩),(k4,⟨pr,true⟩),(fc,⟨c8 k4 (e6 c.gq) 1 0 0,true⟩),(k5,⟨om,true⟩),(c1,⟨c8 k5 (e6 c.gq) 1 0 0,true⟩),(mV,⟨rO ⟨c.cz,cj.c6,64*(m.size (cm.part cj.aF):Int)⟩,true⟩),(dg,⟨gC bN hc fc (xa c cj) (.pointer none),true⟩),(aE,⟨fe oR ⟨c.cz,cj.c6,64*(m.size (cm.part cj.aF):Int)⟩ hc fc c1 eW bB (.pointer none) false 0,true⟩),(qw,⟨iq b6 cm.ig cj.aF c1 eW bB 0 bB 0 0 0,true⟩)]):=hO
 refine ai ed (aZ hO (oS.length+1) (aC rfl) (v:=int c.Cl) rfl (ayE (mh:=3) hO ?_));clear hO;intro ej cq H hO;rw[List.append_assoc]at hO;refine aY (fQ hO (oS.length+3) (aC rfl) rfl (show 8<11 by omega) (bx:=[ak b6 0,bS .u64 cm.ig,ak hc 0,ak fc 0,ak c1 0,ak dg 0,ak aE 0,ak qw 0,ak cq 0,int 1,int 0]) rfl ?_);clear hO;intro H hO;rw[Go.Ab.cy]at hO
 replace hO:al H (oS++[(b6,⟨fr cm L.cV,true⟩),(t4,⟨lr c (.slice ra ew ns),true⟩),(hI,⟨mc cj,true⟩),(dU,⟨[ak b6 0,bS .u64 cm.ig,ak hc 0,ak fc 0,ak c1 0,ak dg 0,ak aE 0,ak qw 0,ak cq 0,int 1,int 0],true⟩),(k3,⟨oQ,true⟩),(hc,⟨c8 k3 (e6 c.gq) 2 0 0,true⟩),(k4,⟨pr,true⟩),(fc,⟨c8 k4 (e6 c.gq) 1 0 0,true⟩),(k5,⟨om,true⟩),(c1,⟨c8 k5 (e6 c.gq) 1 0 0,true⟩),(mV,⟨rO ⟨c.cz,cj.c6,64*(m.size (cm.part cj.aF):Int)⟩,true⟩),(dg,⟨gC bN hc fc (xa c cj) (.pointer none),true⟩),(aE,⟨fe oR ⟨c.cz,cj.c6,64*(m.size (cm.part cj.aF):Int)⟩ hc fc c1 eW bB (.pointer none) false 0,true⟩),(qw,⟨iq b6 cm.ig cj.aF c1 eW bB 0 bB 0 0 0,true⟩),(ej,nA [0,0,0]),(cq,nz 0 (max 1 (min c.Cl 1000000)) ej 3)]):=hO
 have aCK:ik 2 (e6 c.gq) 0 [] oQ:=hA;refine ph H ⟨⟨k3,hc,e6 c.gq,0,oQ,[]⟩,⟨k4,fc,e6 c.gq,0,pr,[]⟩,⟨k5,c1,e6 c.gq,0,om,[]⟩,aE,qw,b6,dg,bN,cf,cq,ej,dU,oR,.pointer none,cW,bB,.pointer none,bB,bB,[],L⟩ (b2 oR yy) rfl rfl rfl rfl ⟨?_,_,fun _=>rfl,?_⟩
 ·have iK:cl (S++b2 oR yy) oR c.key:=LM.lR.jv;have agw:pU (S++b2 oR yy) ⟨k3,hc,e6 c.gq,0,oQ,[]⟩ []:=⟨hA,.nil,by simp⟩;have agx:oj (S++b2 oR yy) ⟨k4,fc,e6 c.gq,0,pr,[]⟩ []:=⟨ck,.nil⟩;have agy:oj (S++b2 oR yy) ⟨k5,c1,e6 c.gq,0,om,[]⟩ []:=⟨jO,.nil⟩;refine⟨BW,.inl ⟨rfl,rfl⟩,.inl rfl,rfl,BW,vn,aV,yx,rV,sv.bo,KC,rfl,?_,by show(0:Int)<=1099511627776;omega,fun _=>⟨⟨iK,xG,kF,nF,agw,agx,agy,rfl,rfl,BW,.inl ⟨rfl,rfl⟩,.yl⟩,⟨agw,agx,rfl,sv.bo,⟨CY,by show(max 0 (min c.yw 100)).toNat<=100;omega,by show(-2:Int)<=-1/\(-1:Int)<=1000;omega,fun _ _ h=>(by cases h),fun _=>.inl rfl⟩⟩,⟨agy,BW,.inl ⟨rfl,rfl⟩,?_,(by intro x ao;cases ao),vn,aV,yx,Nat.zero_le _,Nat.zero_le _⟩,rfl,Int.le_refl 0⟩⟩
  ·intro y ba;have ba:y∈ [(0:Int),0,0]:=ba;simp at ba;subst ba;exact⟨Int.le_refl 0,Int.le_refl 0⟩
  ·exact .inl ⟨rfl,rfl⟩
 ·subst azL;rw[eD]at hO;refine(hO.sub (b8:=((((S++F)++((bN,(⟨fX cf cW bf.du,true⟩:az))::dQ L m))++b2 oR yy)++[(b6,⟨fr cm L.cV,true⟩),(dU,⟨[ak b6 0,bS .u64 cm.ig,ak hc 0,ak fc 0,ak c1 0,ak dg 0,ak aE 0,ak qw 0,ak cq 0,int 1,int 0],true⟩),(k3,⟨oQ,true⟩),(hc,⟨c8 k3 (e6 c.gq) 2 0 0,true⟩),(k4,⟨pr,true⟩),(fc,⟨c8 k4 (e6 c.gq) 1 0 0,true⟩),(k5,⟨om,true⟩),(c1,⟨c8 k5 (e6 c.gq) 1 0 0,true⟩),(dg,⟨gC bN hc fc (xa c cj) (.pointer none),true⟩),(aE,⟨fe oR ⟨c.cz,cj.c6,64*(m.size (cm.part cj.aF):Int)⟩ hc fc c1 eW bB (.pointer none) false 0,true⟩),(qw,⟨iq b6 cm.ig cj.aF c1 eW bB 0 bB 0 0 0,true⟩),(ej,nA [0,0,0]),(cq,nz 0 (max 1 (min c.Cl 1000000)) ej 3)])) ?_).fP (iD fun p=>?_)
  ·refine List.Sublist.append_left ?_ _;refine .cons_cons _ (.cons _ (.cons _ (.cons_cons _ (.cons_cons _ (.cons_cons _ (.cons_cons _ (.cons_cons _ (.cons_cons _ (.cons_cons _ (.cons _ (List.Sublist.refl _)))))))))))
  ·show _=List.countP p (((S++b2 oR yy)++(F++([(k3,⟨oQ,true⟩),(hc,⟨c8 k3 (e6 c.gq) 2 0 0,true⟩),(k4,⟨pr,true⟩),(fc,⟨c8 k4 (e6 c.gq) 1 0 0,true⟩),(k5,⟨om,true⟩),(c1,⟨c8 k5 (e6 c.gq) 1 0 0,true⟩),(dg,(⟨gC bN hc fc (xa c cj) (.pointer none),true⟩:az))]++[])))++([(aE,(⟨fe oR ⟨c.cz,cj.c6,64*(m.size (cm.part cj.aF):Int)⟩ hc fc c1 eW bB (.pointer none) false 0,true⟩:az)),(b6,⟨fr cm L.cV,true⟩),(qw,⟨iq b6 cm.ig cj.aF c1 eW bB 0 bB 0 0 0,true⟩),(bN,⟨fX cf cW bf.du,true⟩),(cq,nz 0 (max 1 (min c.Cl 1000000)) ej 3),(ej,nA [0,0,0]),(dU,⟨[ak b6 0,bS .u64 cm.ig,ak hc 0,ak fc 0,ak c1 0,ak dg 0,ak aE 0,ak qw 0,ak cq 0,int 1,int 0],true⟩)]++dQ L m));simp only[List.countP_append,List.countP_cons,List.countP_nil];omega
end J
namespace J
open Go Go.Ab
variable[cu:b0]
section
variable{H:au}{Γ:List (Nat×az)}{aa:VH}{w:Value}{e:Int}
variable{bm cM:Nat}{s:List Int}
theorem azM{n w:Nat}{agz:Int}(aX:n<=4096)(aM:w<=100000)(AK:max (0:Int) (min agz 100000)=w)(hO:al H Γ)(ag:∀ab bm cM,al ab (Γ++hB bm cM bB (bO.cN n w))->aa (ak bm 0) ab):wCall P 55 [int n,int agz] H aa:=by
 apply aoW;unfold YZ;refine cH vy (cH zd ?_);rw[show max (0:Int) (min (n:Int) 4096)=n by omega,asJ];refine F9 (k:=.i64) (fh:=.i64) hO (by omega) (by omega) ?_;clear hO;intro cM H hO;refine cH vy (cH zd ?_);rw[AK];refine ai (asK n cM w) (dT hO ?_);clear hO;intro bm H hO
 repeat refine bH ?_
 refine aZ hO ((Γ++[(cM,(⟨fS n (kD ij),true⟩:az))]).length+0) (aC rfl) rfl ?_
 repeat refine sr ?_
 rw[acD]at hO
 replace hO:al H (Γ++hB bm cM bB {bO.cN n w with cells:=List.replicate n ij}):=by
  have ax:al H ((Γ++[(cM,⟨jE (List.replicate n ij),true⟩)])++[(bm,⟨[aF cM 0 n 259,bB,int w,int (-1),.bool false],true⟩)]):=hO;have aO:=ax.nR;rw[List.append_assoc]at aO;have e:kE cM bB {bO.cN n w with cells:=List.replicate n ij}=[aF cM 0 n 259,bB,int w,int (-1),.bool false]:=by unfold kE;rw[List.length_replicate];rfl
  show al H (Γ++([(bm,⟨kE cM bB {bO.cN n w with cells:=List.replicate n ij},true⟩),(cM,⟨jE (List.replicate n ij),true⟩)]++[]));rw[e];exact aO
 refine aoV (fun k aG ab=>∃y:Nat,y<=n/\k=n-y/\aG=[.pointer none,ak bm 0,int n,int y]/\al ab (Γ++hB bm cM bB {bO.cN n w with cells:=List.replicate y tp++List.replicate (n-y) ij})) _ _ ?_ n _ _ ⟨0,by omega,rfl,rfl,hO⟩;clear hO;rintro k aG ab ⟨y,ba,rfl,rfl,hO⟩;unfold YY
 try simp only[cR,cS]
 repeat refine bH ?_
 refine bT (fun h=>?_) (fun h=>?_)
 ·have lU:y<n:=by omega
  generalize jO:List.replicate y tp++List.replicate (n-y) ij=C at*;have aCL:C.length=n:=by grind
  have azN:∀c∈C,c.b1:=by
   intro c aA;rw[<- jO]at aA;rcases List.mem_append.1 aA with aA|aA
   ·rw[(List.mem_replicate.1 aA).2];exact El
   ·rw[(List.mem_replicate.1 aA).2];exact asL
  repeat refine bH ?_
  refine aZ hO (Γ.length+0) (aC rfl) rfl (Ek hO ?_);intro cD dd;refine⟨ha hO (Γ.length+0) (aC rfl) dd (Γ.length+0) (aC rfl) rfl,?_⟩;clear hO;refine Ek dd ?_;intro iM kC;refine⟨ha dd (Γ.length+0) (aC rfl) kC (Γ.length+0) (aC rfl) rfl,?_⟩;clear dd;refine ai (asp (s:=jd) (cm:=jd) rfl rfl) (ai (ky (by omega) (by simp_all)) ?_);have rn:(jE C).length=n*129:=by grind[acy]
  have zM:=KX (f:=kD) (l:=C) (i:=y) (o:=0) (y:=tp) (cN:=kD tp) (fun c aA=>vJ (azN c aA)) (by omega) (by rw[vJ El];omega) (by simp_all[vJ,El]);rw[vJ El]at zM;refine o9 kC (Γ.length+1) (aC rfl) (show(kD tp).length=129 from vJ El) (by grind) (asd _) ?_;clear kC;intro H hO
  repeat refine bH ?_
  refine⟨_,by omega,y+1,by omega,rfl,rfl,asI (eE:={bO.cN n w with cells:=List.replicate (y+1) tp++List.replicate (n-(y+1)) ij}) hO ?_ ?_ rfl rfl rfl rfl⟩
  ·have bn:0+(y:Int).toNat*129=y*129+0:=by omega
   rw[bn];refine zM.trans ?_;show(C.set y tp).flatMap kD=jE (List.replicate (y+1) tp++List.replicate (n-(y+1)) ij);rw[<- jO,List.set_append_right _ _ (by simp),List.length_replicate,Nat.sub_self,show n-y=(n-(y+1))+1 by omega,List.replicate_succ,List.set_cons_zero,List.replicate_succ'];simp[jE]
  grind
 ·have lW:y=n:=by omega
  subst lW;rw[Nat.sub_self,List.replicate_zero,List.append_nil]at hO
  repeat refine Bm ?_
  exact ag _ bm cM hO
end
end J
namespace J
open Go Go.Ab
section
variable[cu:b0]
variable{H:au}{S F:List (Nat×az)}{v w cW:Value}{f j k:Nat}{m:bt}{e a b:Int}{gU:List Int}
structure eF where
 qx:Int
 tF:Int
 gU:List Int
 off:q7
 bR:List pq
 hN:w9
 cj:uU
def oo(w:eF)(lu ic cW a6:Value):List Value:=int w.qx::int w.tF::lu::ic::cW::(lr w.hN a6++mc w.cj)
def Mf(x:Int):List Int:=x::List.replicate 63 0
theorem azO(x:Int):(di P 102).f [(0,.int .u8 x)]=some (oK (Mf x)):=by rfl
theorem azP{x:Int}(h:0<=x/\x<=255):ct (Mf x):=by
 intro y ba;rcases List.mem_cons.1 ba with rfl|ba
 ·exact h
 simp_all
theorem agA(x:Int):(Mf x).length=64:=by rfl
def HG(m:bt)(x:Int):bt:=(m.eS (1+((x.toNat%2:Nat):Int)) ((x.toNat/2:Nat):Int) (Mf x)).1
def oT(m:bt)(gU:List Int):bt:=gU.foldl HG m
theorem azQ{aj:List Int}{y:Nat}(h:cl S v aj)(ba:y<aj.length):∃(p o c j:Nat) (b:az),v=aF p o aj.length c/\S[j]?=some (p,b)/\b.cells[o+((y:Nat):Int).toNat*1]?=some (.int .u8 aj[y]):=by
 obtain⟨p,o,c,j,b,ad,af,ax⟩:=cl.at h ba
 grind
theorem agB{a:Int}(h:0<=a/\a<=255):j5 .i64 (.int .u8 a) H=some (int a,H):=by
 show some (Value.int .i64 (iY .i64 a),H)=_
 grind[y9]
theorem azR{t0 a8:Value}{bY:LX}{c9:LN}{eO:lG}(hv:cl S v gU)(vf:ct gU)(aD:gU.length<=30)(aV:pn m)(yx:lk eO m)(rV:m.hR 0)(hO:al H ((S++F)++dQ eO m))
  (ag:∀ab cv,eO.Eq cv->pn (oT m gU)->lk cv (oT m gU)->(oT m gU).hR 30->al ab ((S++F)++dQ cv (oT m gU))->bY 0 [t0,a8,ak eO.cV 0] ab):
  fw P true 95 Qd 14 [t0,a8,ak eO.cV 0,v,int gU.length,int 0] H bY c9:=by
 refine aow (fun k aG ab=>∃(y:Nat) (cv:lG),y<=gU.length/\k=gU.length-y/\aG=[t0,a8,ak eO.cV 0,v,int gU.length,int y]/\eO.Eq cv/\pn (oT m (gU.take y))/\lk cv (oT m (gU.take y))/\(oT m (gU.take y)).hR y/\al ab ((S++F)++dQ cv (oT m (gU.take y)))) _ _ ?_ gU.length _ _ ⟨0,eO,Nat.zero_le _,rfl,rfl,.gm,aV,yx,rV,hO⟩;clear hO aV yx rV;rintro k aG H ⟨y,cv,ba,rfl,rfl,he,aV,yx,rV,hO⟩;unfold Ys
 try simp only[cR,cS]
 refine ai gj (bT (fun h=>?_) (fun h=>?_))
 ·have lU:y<gU.length:=by omega
  have jX:=vf gU[y] (List.getElem_mem lU);obtain⟨p,o,c,j,b,rfl,bp,aA⟩:=azQ hv lU;refine ai (ky (by omega) (by omega)) (aZ hO j (aS (aS bp)) aA ?_);have x4:=Tn lU;have aM:oT m (gU.take (y+1))=HG (oT m (gU.take y)) gU[y]:=by grind[oT]
  obtain⟨z,eu⟩:∃z:Nat,gU[y]=z:=⟨gU[y].toNat,by omega⟩;unfold HG at aM;rw[eu]at jX aM⊢;rw[Int.toNat_natCast]at aM;refine cH (agB jX) (ai (Hf (by decide)) ?_);have aCM:z%2<2:=Nat.mod_lt _ (by decide);generalize aCN:z%2=azS at*;refine ai (v:=int (1+(azS:Int))) (by grind[mn]) (cH (agB jX) (ai (Le (by decide) (by omega)) (ai (azO _) ?_)));rw[<- he.m];refine acQ aV.ok (agA _) (rV.mono (by omega)) hO yx ?_;clear hO;intro cD Ac xz dd kl;refine ai (v:=int ((y+1:Nat):Int)) (by grind[mn]) (⟨_,by omega,y+1,Ac,lU,rfl,rfl,he.trans xz,?_,?_,?_,?_⟩)
  ·rw[aM];exact afl (agA _) (azP jX) _ aV
  ·rw[aM];exact kl
  ·rw[aM];exact bt.acN rV
  ·rw[aM];exact dd
 ·have e:y=gU.length:=by omega
  subst e;rw[List.take_length]at aV yx rV hO;exact ag H cv he aV yx (rV.mono aD) hO
end
end J
namespace J
open Go Go.Ab
section
variable[cu:b0]
variable{H:au}{S F sN X R:List (Nat×az)}{aa:VH}{v w cW:Value}{ar bx:List Value}{r f j N b6 bN gS o:Nat}{s:gK}{m:bt}{L:lG}{a b:Int}{gU:List Int}{q:iO}{p:dY}
theorem en.sub(h:en H S F q p N)(aw:sN.Sublist F):en H S sN q p N:=by obtain⟨bc,R,U,hO⟩:=h;refine⟨bc,R,U,hO.sub ?_⟩;exact List.Sublist.append_right (List.Sublist.append_left (List.Sublist.append_right aw R) S) _
theorem en.cI(h:en H S (F++[(gS,⟨ar,true⟩)]) q p N)(hv:ar[o]?=some v)(ag:aa v H):ah (aB (ak gS o) H) aa:=by obtain⟨bc,R,U,hO⟩:=h;exact aZ hO (S.length+(F.length+0)) (aS (aC (aS (aC rfl)))) hv ag
theorem en.st(h:en H S (F++[(gS,⟨ar,true⟩)]) q p N)(ad:eP v=true)(aX:o<ar.length)(aA:ar.set o v=bx)(ag:∀ab,en ab S (F++[(gS,⟨bx,true⟩)]) q p N->aa undef ab):ah (bC 1 (ak gS o) v H) aa:=by obtain⟨bc,R,U,hO⟩:=h;have dJ:al H (((S++(F++R))++rU q p)++[(gS,⟨ar,true⟩)]):=hO.fP (iD fun p=>by grind);refine tC dJ ad aX aA ?_;intro ab iR;exact ag ab ⟨bc,R,U,iR.fP (iD fun p=>by grind)⟩
def lI(q:iO):List Value:=[ak q.L.cV 0,ak q.bN 0,ak q.b6 0,ak q.dU 0,int 0]
theorem azT(a b c:Nat):(di P 42).f [(0,ak a 0),(1,ak b 0),(2,ak c 0)]=some (agg [ak a 0,ak b 0,ak c 0,.pointer none,int 0]):=by rfl
theorem azU:(di P 108).f [(0,(.int .i64 1)),(1,(.int .i64 2))]=some (agg [int 1,int 2]):=by rfl
theorem azV(a b c:Int)(H:au):(eY P 48 3).f [(0,int a),(1,int b),(2,int c)] H=some (aF H.next 0 3 3,H.push [int a,int b,int c]):=by rfl
theorem azW(p:Nat):(ay P .eql 37 true).f (ak p 0) (.pointer none)=some (.bool false):=by rfl
def ps(w:eF):bt:={(oT ⟨bO.cN 60 ((max 0 (min w.tF 100000)).toNat:Int),l8 0 [1,w.qx.toNat,w.qx.toNat],0,[]⟩ w.gU).iS.1 with bA:=[]}
def tG:gK:=⟨0,0,0,0,1,2⟩
structure xb (S:List (Nat×az)) (w:eF) (lu ic cW a6:Value):Prop where
 gU:cl S lu w.gU
 Hu:ct w.gU
 off:w8 S ic w.off
 bR:j3 S cW w.bR
 Cf:∀f∈w.bR,f.v<256
 key:cl S a6 w.hN.key
 w1:ct w.hN.key
structure eF.kX (w:eF):Prop where
 s:1<=w.qx/\w.qx<=20
 gU:w.gU.length<=30
 off:w.off.length<=5
 bR:w.bR.length<=60
 key:w.hN.key.length<=200
 cz:w.hN.cz.length<=200
 fs:w.cj.fs.length<=200
 UC:∀o∈w.off,o.1.length<=200/\o.2.length<=4000
theorem xb.bo{w:eF}{lu ic cW a6:Value}(h:xb S w lu ic cW a6):xb (S++X) w lu ic cW a6:=⟨h.gU.bo,h.Hu,h.off.bo,h.bR.bo,h.Cf,h.key.bo,h.w1⟩
theorem azX{w:eF}{lu ic cW a6:Value}(h:xb S w lu ic cW a6):(oo w lu ic cW a6).all fH=true:=by
 obtain⟨aP,ad,_⟩:=h.off;have bJ:fH ic=true:=by rcases ad with⟨rfl,_⟩|⟨p,c,j,w,rfl,_⟩<;>rfl
 show(true&&(true&&(fH lu&&(fH ic&&(fH cW&&(lr w.hN a6++mc w.cj).all fH)))))=true;rw[cl.fv h.gU,bJ,h.bR.sF,List.all_append,agv h.key];rfl
theorem azY(m:bt):∀(gU:List Int),(oT m gU).jF=m.jF:=by
 intro gU;induction gU generalizing m with
 | nil=>rfl
 | cons x r bd=>simp_all[oT,HG,bt.asU]
theorem agC(w:eF):(ps w).jF=[(0,1),(1,w.qx.toNat),(1+w.qx.toNat,w.qx.toNat)]:=by
 show(oT _ w.gU).iS.1.jF=_;show(oT _ w.gU).jF=_
 simp_all[azY,l8]
end
end J
namespace J
open Go Go.Ab
variable{H:au}{Γ b8 S F X:List (Nat×az)}{aa:VH}{v:Value}{ar bx:List Value}{n N b6 bN cf gS o:Nat}{s:gK}{m:bt}{bf:hC}{b:Int}{gU:List Int}{q:iO}{p:dY}{w:eF}{lu ic cW a6:Value}
def nB(w:eF):dY:=Md w.hN w.cj (tG.gR w.cj.ka w.cj.aF).2.2 (ps w) ⟨Hw w.off,w.bR,0⟩
theorem azZ{zT:Nat}{tF:Int}{cF:List (Nat×Nat)}:bt.tz ⟨bO.cN zT tF,cF,0,[]⟩:=by intro c aA x ao;have:c=tp:=List.eq_of_mem_replicate aA;subst this;have:x=255:=List.eq_of_mem_replicate ao;omega
theorem agD{l0:Int}(h:w.qx<=20):(ps w).size l0<=20:=by
 unfold bt.size;split
 ·unfold bt.rJ;rw[agC]
  grind
 omega
theorem Tq[cu:b0](hf:w.kX)(aM:xb S w lu ic cW a6)(hO:al H (S++F))
  (eT:(tG.gR w.cj.ka w.cj.aF).2.1≠0->∀(cv:b0) ab gS cV bN b6 Γ,@al cv ab (Γ++[(gS,⟨[ak cV 0,ak bN 0,ak b6 0,.pointer none,int (tG.gR w.cj.ka w.cj.aF).2.1],true⟩)])->aa (ak gS 0) ab)
  (ph:(tG.gR w.cj.ka w.cj.aF).2.1=0->∀(cv:b0) ab gS q X,(∀x∈cu.l,x.1<q.cf)->(∃T,cv=iA q.cf (jU T) cu)->@en cv ab (S++X) (F++[(gS,⟨lI q,true⟩)]) q (nB w) 30->aa (ak gS 0) ab):
  wCall P 12 [agg (oo w lu ic cW a6)] H aa:=by
 apply aox;unfold Yt;obtain⟨gr,fZ,kj,ld,lA,f6,oJ,pJ⟩:=hf;have Rb:=azX aM;obtain⟨n,aX⟩:=Int.eq_ofNat_of_zero_le (show 0<=w.qx by omega);have aX:w.qx=(n:Int):=aX;refine dT hO ?_;clear hO;intro a8 H hO
 replace hO:al H (S++(F++[(a8,⟨oo w lu ic cW a6,true⟩)])):=by rw[<- List.append_assoc];exact hO
 have Mg:∀ {b8},((S++(F++[(a8,(⟨oo w lu ic cW a6,true⟩:az))]))++b8)[S.length+(F.length+0)]?=some (a8,⟨oo w lu ic cW a6,true⟩):=aS (aC (aC rfl));refine ai ed (aZ hO (S.length+(F.length+0)) (aC (aC rfl)) (v:=int w.tF) rfl ?_);have dJ:=hO;refine azM (n:=60) (w:=(max 0 (min w.tF 100000)).toNat) (by omega) (by omega) (by omega) hO ?_;clear hO;intro H bm cM hO;refine ai ed (aZ hO _ Mg (v:=int w.qx) rfl (⟨ha dJ (S.length+(F.length+0)) (aC (aC rfl)) hO _ Mg Rb,?_⟩));refine ai ed (aZ hO _ Mg (v:=int w.qx) rfl (⟨ha dJ (S.length+(F.length+0)) (aC (aC rfl)) hO _ Mg Rb,?_⟩));clear dJ;rw[aX];refine ih hO (azV _ _ _ _) ?_;clear hO;intro sP H hO;refine as2 (iB:=[1,n,n]) (QZ:=(S++(F++[(a8,(⟨oo w lu ic cW a6,true⟩:az))])).length+0) (c:=3) (bO.acE (by omega) (by omega)) hO.nR (aC rfl) (by simp) (by simp) (fun x ao=>by simp at ao;omega) (by grind[bO.cN]) (.inl ⟨rfl,rfl,rfl⟩) ?_;clear hO;intro H cV bz hO hv;refine ai km (ai kn (gb (fun aG ab=>aG=[ak a8 0,.pointer none,ak cV 0]/\ab=H) ?_ ?_))
 ·exact ai (ax7 _) (eX rfl (ai jh (ai qi (tb (by decide) (⟨rfl,rfl⟩)))))
 rintro aG ab ⟨rfl,rfl⟩
 try simp only[cR,cS]
 replace hO:al ab ((S++(F++[(a8,⟨oo w lu ic cW a6,true⟩),(sP,⟨[int 1,int n,int n],true⟩)]))++dQ ⟨cV,bm,cM,bz,bB,bB⟩ ⟨bO.cN 60 ((max 0 (min w.tF 100000)).toNat:Int),l8 0 [1,n,n],0,[]⟩):=
  hO.fP (iD fun p=>by simp_all)
 have oC:pn ⟨bO.cN 60 ((max 0 (min w.tF 100000)).toNat:Int),l8 0 [1,n,n],0,[]⟩:=by
  refine⟨⟨bO.acE (by omega) (by omega),?_,by simp_all[QX]⟩,azZ⟩;intro x ao;have ao:x∈ [(0,1),(0+1,n),(0+1+n,n)]:=ao;show x.1+x.2<=(List.replicate 60 tp).length
  grind
 have az0:∀ {b8},((S++(F++[(a8,(⟨oo w lu ic cW a6,true⟩:az)),(sP,(⟨[int 1,int n,int n],true⟩:az))]))++b8)[S.length+(F.length+0)]?=some (a8,⟨oo w lu ic cW a6,true⟩):=aS (aC (aC rfl));refine ai ed (aZ hO _ az0 (v:=lu) rfl (cH aM.gU.cG (azR (eO:=⟨cV,bm,cM,bz,bB,bB⟩) aM.gU aM.Hu fZ oC hv ⟨Nat.le_refl 0,Nat.le_refl 0⟩ hO ?_)));clear hO hv oC;intro H ER Cm oC hv rV hO;show cond (Nat.beq 0 0) _ _;rw[Nat.beq_refl];show wCall P 57 [ak cV 0] H _;rw[show cV=ER.cV from Cm.m.symm];refine acR oC.ok (rV.mono (by omega)) hO hv ?_;have HH:=afk _ oC;have sz:=bt.acO rV;clear hO hv;intro H Ac xz hO hv;rw[<- xz.m];refine asX hO hv ?_;clear hO hv;intro H hO hv;have BZ:({(oT ⟨bO.cN 60 ((max 0 (min w.tF 100000)).toNat:Int),l8 0 [1,n,n],0,[]⟩ w.gU).iS.1 with bA:=[]}:bt)=ps w:=by simp_all[ps]
 rw[BZ]at hO hv;have az1:pn (ps w):=by rw[<- BZ];exact⟨⟨HH.ok.d,HH.ok.s,HH.ok.n⟩,HH.b⟩
 have az2:(ps w).hR 30:=by rw[<- BZ];exact⟨sz.1,Nat.zero_le _⟩
 clear HH sz rV oC;generalize rI (oT ⟨bO.cN 60 ((max 0 (min w.tF 100000)).toNat:Int),l8 0 [1,n,n],0,[]⟩ w.gU).iS.1.bA=ops2 at hO;obtain⟨qy,Ts⟩:∃qy:lG,qy={Ac with iT:=bB}:=⟨_,rfl⟩;have Li:Ac.cV=qy.cV:=by rw[Ts]
 rw[<- Ts]at hO hv;rw[Li];obtain⟨jy,agE⟩:∃jy,jy=b2 Ac.iT ops2:=⟨_,rfl⟩;rw[<- agE]at hO;clear Ts Li Cm xz agE
 replace hO:al H (S++(((F++[(a8,⟨oo w lu ic cW a6,true⟩),(sP,⟨[int 1,int n,int n],true⟩)])++jy)++dQ qy (ps w))):=
  hO.fP (iD fun p=>by simp_all)
 refine ai ed (aZ hO (S.length+(F.length+0)) (aC (aS (aS (aC rfl)))) (v:=ic) rfl (ai ed (aZ hO (S.length+(F.length+0)) (aC (aS (aS (aC rfl)))) (v:=cW) rfl (azD (fun o bJ=>by grind) (by omega) aM.off aM.bR (by omega) aM.Cf hO ?_))));clear hO;intro cv H cf bN Tt X Fi hL bc hO;refine ai azU (ax4 hO ?_);clear hO;intro H b6 hO;refine ai (azT _ _ _) (dT hO ?_);clear hO;intro gS H hO
 replace hO:al H ((((((S++X)++(((F++[(a8,⟨oo w lu ic cW a6,true⟩),(sP,⟨[int 1,int n,int n],true⟩)])++jy)++dQ qy (ps w)))++[(bN,⟨fX cf Tt 0,true⟩)])++[(b6,⟨fr tG qy.cV,true⟩)])++[(gS,⟨[ak qy.cV 0,ak bN 0,ak b6 0,.pointer none,int 0],true⟩)])):=hO
 replace hO:al H ((((S++X)++(((F++[(a8,⟨oo w lu ic cW a6,true⟩),(sP,⟨[int 1,int n,int n],true⟩)])++jy)++[(gS,⟨[ak qy.cV 0,ak bN 0,ak b6 0,.pointer none,int 0],true⟩)]))++((bN,⟨fX cf Tt 0,true⟩)::dQ qy (ps w)))++[(b6,⟨fr tG qy.cV,true⟩)]):=
  hO.fP (iD fun p=>by simp only[List.countP_append,List.countP_cons,List.countP_nil];omega)
 obtain⟨ES,Tu⟩:∃ES,ES=(F++[(a8,(⟨oo w lu ic cW a6,true⟩:az)),(sP,⟨[int 1,int n,int n],true⟩)])++jy:=⟨_,rfl⟩;rw[<- Tu]at hO;have mm:∀ {b8 Tv},((((S++X)++(ES++[(gS,(⟨[ak qy.cV 0,ak bN 0,ak b6 0,.pointer none,int 0],true⟩:az))]))++b8)++Tv)[(S++X).length+(ES.length+0)]?=some (gS,⟨[ak qy.cV 0,ak bN 0,ak b6 0,.pointer none,int 0],true⟩):=aS (aS (aC (aC rfl)));have Av:∀ {b8 Tv az3},((((S++X)++(ES++az3))++b8)++Tv)[(S++X).length+(F.length+0)]?=some (a8,⟨oo w lu ic cW a6,true⟩):=by rw[Tu];exact aS (aS (aC (aS (aS (aC rfl)))))
 refine gb (fun aG ab=>aG=[ak a8 0,ak gS 0]/\ab=H) ?_ ?_
 ·exact aY (aZ hO _ mm (v:=ak bN 0) rfl (ai (azW _) (eX rfl (aY (aZ hO _ mm (v:=ak b6 0) rfl (ai (ax8 _) (ai qi (eX rfl (⟨rfl,rfl⟩)))))))))
 rintro aG ab ⟨rfl,rfl⟩
 try simp only[cR,cS]
 refine ai ed (jM (ar:=lr w.hN a6) hO _ Av rfl rfl (by omega) (aY (aZ hO _ mm (v:=ak bN 0) rfl (aY (aZ hO _ mm (v:=ak b6 0) rfl (ai ed (jM (ar:=mc w.cj) hO _ Av rfl rfl (by omega) (Tp (N:=30) (bf:=⟨Hw w.off,w.bR,0⟩) (s:=tG) (c:=w.hN) (cj:=w.cj) (aM.key.bo) aM.w1 (by omega) (by omega) (by omega) (by decide) ⟨by decide,by decide⟩ az1 hv az2 (Nat.le_trans (agD gr.2) (by omega)) bc (Nat.zero_le _) hO ?_ ?_))))))))
 ·clear hO;intro h H hO;refine ai km (ai kn (aY ?_));have dJ:al H ((((S++X)++ES)++(((bN,(⟨fX cf Tt 0,true⟩:az))::dQ qy (ps w))++[(b6,⟨fr (tG.gR w.cj.ka w.cj.aF).2.2 qy.cV,true⟩)]))++[(gS,⟨[ak qy.cV 0,ak bN 0,ak b6 0,.pointer none,int 0],true⟩)]):=
   hO.fP (iD fun p=>by simp only[List.countP_append,List.countP_cons,List.countP_nil];omega)
  refine tC dJ rfl (show 3<5 by omega) (bx:=[ak qy.cV 0,ak bN 0,ak b6 0,.pointer none,int 0]) rfl ?_;clear hO dJ;intro H hO;refine aY (tC hO rfl (show 4<5 by omega) (bx:=[ak qy.cV 0,ak bN 0,ak b6 0,.pointer none,int (tG.gR w.cj.ka w.cj.aF).2.1]) rfl ?_);clear hO;intro H hO;exact eT h cv H gS _ _ _ _ hO
 ·clear hO;intro h H q Ad Fo sa az4 az5 hg;subst Fo sa az4 az5;refine ai km (ai kn (aY (en.st hg rfl (show 3<5 by omega) (bx:=lI q) rfl ?_)));clear hg;intro H hg;refine aY (en.st hg rfl (show 4<5 by omega) (bx:=lI q) rfl ?_);clear hg;intro H hg;rw[List.append_assoc]at hg;refine ph h cv H gS q (X++Ad) Fi hL (hg.sub ?_);rw[Tu,List.append_assoc,List.append_assoc];refine List.Sublist.append_left ?_ F;exact .cons _ (.cons _ (List.sublist_append_right _ _))
end J
namespace J
open Go Go.Ab
variable[cu:b0]
end J
namespace J
open Go Go.Ab
variable[cu:b0]
variable{H:au}{Γ b8 S F X:List (Nat×az)}{aa:VH}{v Ae a6:Value}{r n f j o p dN:Nat}{e b aE:Int}{key tH:List Int}{cz:List UInt8}
theorem az6{v w:Value}(ad:∀q∈cd [v],q≠p)(af:∀q∈cd [w],q≠p):qS (cd [v,w]) (cd [ak p 0]):=by
 unfold qS oY;have e:cd [ak p 0]=[p]:=rfl;rw[e,ki,List.all_eq_true]
 grind[cd,afY]
theorem agF(h:pR Γ v):∀q∈cd [v],∃(j:Nat) (b:az),Γ[j]?=some (q,b):=by
 intro q b5;rcases h with rfl|⟨p,o,n,c,j,b,rfl,af,_⟩
 ·cases b5
 ·have:q=p:=List.mem_singleton.1 b5
  grind
theorem az7(rB:cl S a6 key)(xG:ct key)(kF:key.length<=1000)(agG:cl S Ae tH)(az8:ct tH)(s6:tH.length<=100000)(fT:pR S Ae)(G6:dN<18446744073709551616)(jb:0<=aE/\aE<=9223372036854775807)(bM:cz.length<=1000)(hO:al H (S++F))
  (eT:¬eB (ma cz dN aE tH)->∀v r ab,aa (.tuple [v,r,.bool false].toArray) ab)
  (ph:eB (ma cz dN aE tH)->∀ab mU bb X,cl (S++X) mU (iW key (ma cz dN aE tH)++tH)->fR (S++X) bb (ma cz dN aE tH).a1->al ab ((S++X)++F)->aa (.tuple [mU,agg (b4 (ma cz dN aE tH) bb),.bool true].toArray) ab):
  wCall P 16 [a6,bZ cz,bS .u64 dN,int aE,Ae] H aa:=by
 apply aoy;unfold Yw;rw[Ez];refine dT hO ?_;clear hO;intro qz H hO;have Jd:∀ {m:df} {bb:Value} {tI:List (Nat×az)} {bn:Int} {H:au},m.b1->fR tI bb m.a1->(bn=0↔eB m)->(eB m->m=ma cz dN aE tH)->(¬eB m->¬eB (ma cz dN aE tH))->al H (((S++F)++[(qz,⟨b4 eW bB,true⟩)])++tI)->
   cO (b4 eW bB) H fun mV az9=>
   ah (bC 37 mV (agg (b4 m bb)) az9) fun aU qZ=>
   ah (ch 37 mV qZ) fun Sr aAa=>
   wCall P 70 [a6,Sr] aAa fun agH agI=>
   ae (eA 0 agH) fun agJ=>
   ae (eA 1 agH) fun aAb=>
   ah (gD 1 1 agJ Ae agI) fun HI HJ=>
   ah (ch 37 mV HJ) fun HK HL=>
   qS (cd [agJ,Ae]) (cd [mV])/\mH (cd [mV]) agI.next HJ.next/\(ae ((ay P .eql 3 true).f (int bn) (int 0)) fun Cn=>
   aN Cn (
   ae ((ay P .eql 3 true).f aAb (int 0)) fun Tw=>
   ae (aH Cn Tw (.bool false)) fun Tx=>
   ah (bC 37 (ak qz 0) HK HL) fun SE HM=>
   ah (ch 37 (ak qz 0) HM) fun r _=>
   aa (.tuple [HI,r,Tx].toArray) HM) (
   ae (aH Cn undef (.bool false)) fun Ty=>
   ah (bC 37 (ak qz 0) HK HL) fun afe HN=>
   ah (ch 37 (ak qz 0) HN) fun Tz _=>
   aa (.tuple [HI,Tz,Ty].toArray) HN)):=by
  intro m bb tI bn H ok l7 Cm vg p7 hO;refine dT hO ?_;clear hO;intro mV H hO;refine gl hO (_+0) (aC rfl) (e1 rfl) (e1 ok.dR) (pg l7.gd) ?_;clear hO;intro H hO
  replace hO:=hO.cy
  replace hO:al H ((((S++F)++[(qz,⟨b4 eW bB,true⟩)])++tI)++[(mV,⟨b4 m bb,true⟩)]):=hO
  have Mh:∀ {b8},(((((S++F)++[(qz,(⟨b4 eW bB,true⟩:az))])++tI)++[(mV,(⟨b4 m bb,true⟩:az))])++b8)[(((S++F)++[(qz,(⟨b4 eW bB,true⟩:az))])++tI).length+0]?=some (mV,⟨b4 m bb,true⟩):=aS (aC rfl);refine hi hO (_+0) (aC rfl) (e1 ok.dR) (by omega) ?_;have eC:∀ {ev:Value} {oh:List Value} {aJ:List Int} {bF:Int} {H:au},fI ev aJ oh->aJ.length<=100000->(bn=0->bF=0)->(bn=0->aJ=iW key m)->al H (((((S++F)++[(qz,⟨b4 eW bB,true⟩)])++tI)++[(mV,⟨b4 m bb,true⟩)])++b2 ev oh)->
    ah (gD 1 1 ev Ae H) fun HI HJ=>
    ah (ch 37 (ak mV 0) HJ) fun HK HL=>
    qS (cd [ev,Ae]) (cd [ak mV 0])/\mH (cd [ak mV 0]) H.next HJ.next/\(ae ((ay P .eql 3 true).f (int bn) (int 0)) fun Cn=>
    aN Cn (
    ae ((ay P .eql 3 true).f (int bF) (int 0)) fun Tw=>
    ae (aH Cn Tw (.bool false)) fun Tx=>
    ah (bC 37 (ak qz 0) HK HL) fun SE HM=>
    ah (ch 37 (ak qz 0) HM) fun r _=>
    aa (.tuple [HI,r,Tx].toArray) HM) (
    ae (aH Cn undef (.bool false)) fun Ty=>
    ah (bC 37 (ak qz 0) HK HL) fun afe HN=>
    ah (ch 37 (ak qz 0) HN) fun Tz _=>
    aa (.tuple [HI,Tz,Ty].toArray) HN)):=by
   intro ev oh aJ bF H bW aCO xz SI hO;have e8:∀q∈cd [ev],q≠mV:=by intro q b5;obtain⟨j,b,bp⟩:=agF (fI.uF bW) q b5;exact L5 hO (aC bp) Mh (by grind)
   have fF:∀q∈cd [Ae],q≠mV:=by intro q b5;obtain⟨j,b,bp⟩:=agF fT q b5;have aD:=(List.getElem?_eq_some_iff.1 bp).1;exact L5 hO (aS (aS (aS (aS (aS bp))))) Mh (by grind)
   have TA:=LK (ab:=H) (eZ:=0) hO Mh;refine te hO bW (agG.bo.bo.bo.bo) (by omega) ?_;clear hO;intro cD ec l4 hO dt;refine hi hO _ Mh (e1 ok.dR) (by omega) (⟨az6 e8 fF,TA _,?_⟩);have TB:∀ {b8},((((((S++F)++[(qz,(⟨b4 eW bB,true⟩:az))])++tI)++b8)++b2 ec l4))[(S++F).length+0]?=some (qz,⟨b4 eW bB,true⟩):=aS (aS (aS (aC rfl)));refine ai fz (bT (fun h=>?_) (fun h=>?_))
   ·rw[xz h];refine ai fz (ai (ju h) (gl hO _ TB (e1 rfl) (e1 ok.dR) (pg l7.gd) ?_));clear hO;intro iM hO;have U:=Cm.1 h;have dJ:al iM (((S++(tI++b2 ec l4))++F)++[(qz,⟨b4 m bb,true⟩),(mV,⟨b4 m bb,true⟩)]):=by rw[List.append_assoc,List.append_assoc (((S++F)++_)),List.append_assoc (S++F),Go.Ab.cy]at hO;refine hO.fP (iD fun p=>?_);show List.countP p ((S++F)++((qz,(⟨b4 m bb,true⟩:az))::(tI++([(mV,(⟨b4 m bb,true⟩:az))]++b2 ec l4))))=_;simp only[List.countP_append,List.countP_cons,List.countP_nil];omega
    refine hi dJ (((S++(tI++b2 ec l4))++F).length+0) (aC rfl) (e1 ok.dR) (by omega) ?_;have aV:=vg U;subst aV;rw[SI h]at dt;have:=ph U iM ec bb (tI++b2 ec l4) (by rw[<- List.append_assoc];exact dt.lR.jv) (by rw[<- List.append_assoc];exact(l7.jv).bo) dJ.left;exact this
   ·refine ai (kV h) ?_;have U:¬eB m:=fun a7=>h (Cm.2 a7)
    refine gl hO _ TB (e1 rfl) (e1 ok.dR) (pg l7.gd) ?_;clear hO;intro iM hO;exact hi hO _ (KQ TB) (e1 ok.dR) (by omega) (eT (p7 U) _ _ _)
  refine avB ok hO (rB.bo.bo.bo.bo) ((l7.jv).bo) xG (by omega) ?_ ?_
  ·intro U cD dd;refine ai km (ai kn (eC .nil (by simp) (fun h=>absurd (Cm.1 h) U) (fun h=>absurd (Cm.1 h) U) ?_));show al cD (_++[]);rw[List.append_nil];exact dd
  ·intro U cD ev oh dd bW;refine ai km (ai kn ?_);have an:=B0 (key:=key) ok U;exact eC bW (by omega) (fun _=>rfl) (fun _=>rfl) dd
 refine ayd hO (agG.bo.bo) az8 (by omega) G6 (by omega) (by omega) ?_ ?_
 ·intro U cD dd;refine ai km (ai kn ?_);have aR:¬eB eW:=fun h=>by obtain⟨_,h,_⟩:=h;exact absurd h (by decide)
  exact Jd (tI:=[]) BW fR.nil ⟨fun h=>(by cases h),fun h=>absurd h aR⟩ (fun h=>absurd h aR) (fun _=>U) (by rw[List.append_nil];exact dd)
 ·intro U cD bb dd l7;refine ai km (ai kn ?_);have EC:=agd U;unfold ma at EC;rw[B7]at EC;exact Jd (SG G6 (by omega) (by omega) (by omega) (by omega)) l7 ⟨fun _=>U,fun _=>rfl⟩ (fun _=>rfl) (fun h=>absurd U h) dd
end J
namespace J
open Go Go.Ab
variable[cu:b0]
variable{H:au}{S F X:List (Nat×az)}{aa:VH}{a6 ic:Value}{n f k gS p dN:Nat}{e a b aE:Int}{key tH:List Int}{cz:List UInt8}
def oU:List Int:=[107,101,121]
def rb:List Int:=List.replicate 100 0
def xc:df:=ma gx 3 64 rb
def Co:List Int:=iW oU xc++rb
def iE(fs:List UInt8):eF:=⟨4,100,[],[(gx,Co)],[],⟨oU,gx,2,2,10,0,0⟩,⟨1,1,fs,0⟩⟩
theorem TC:eB xc:=ayt ayu (by decide) (by decide) (by decide) (by decide) (by decide) (by decide) (by decide) (by decide)
theorem Mi:xc.b1:=SG (by decide) (by decide) (by decide) (by decide) (by decide)
theorem agK:ct oU:=by intro x ao;grind[oU]
theorem agL:ct rb:=fun x ao=>by have:x=0:=List.eq_of_mem_replicate ao;omega
theorem agM(H:au):(eY P 22 3).f [(0,.int .u8 107),(1,.int .u8 101),(2,.int .u8 121)] H=some (aF H.next 0 3 3,H.push (bj oU)):=by rfl
theorem aAc:qF P 22=⟨tO 1 1 [.int .u8 0]⟩:=by rfl
theorem aAd(l:List UInt8)(a:Option Addr)(n c:Nat):(di P 59).f [(0,bZ l),(1,.slice a n c)]=some (agg [bZ l,.slice a n c]):=by rfl
theorem aAe(l:List UInt8)(a:Option Addr)(n c:Nat)(H:au):(eY P 23 1).f [(0,agg [bZ l,.slice a n c])] H=some (aF H.next 0 1 5,H.push [bZ l,.slice a n c]):=by rfl
theorem aAf(a:Option Addr)(n c:Nat):(di P 26).f [(0,.slice a n c),(1,(.string ⟨#[99,111,114,101]⟩)),(2,(.int .i64 2)),(3,(.int .i64 2)),(4,(.int .i64 10))]=some (agg (lr ⟨oU,gx,2,2,10,0,0⟩ (.slice a n c))):=by rfl
theorem aAg:(di P 29).f [(0,(.int .i64 1)),(1,(.int .i64 1)),(2,(.string ⟨#[99,111,114,101]⟩))]=some (agg (mc ⟨1,1,gx,0⟩)):=by rfl
theorem aAh(a b:Option Addr)(n c m d:Nat):(di P 31).f [(0,(.int .i64 4)),(1,(.int .i64 100)),(3,.slice a n c),(5,agg (lr ⟨oU,gx,2,2,10,0,0⟩ (.slice b m d))),(6,agg (mc ⟨1,1,gx,0⟩))]=some (agg (oo (iE gx) bB (.slice a n c) bB (.slice b m d))):=by rfl
def TD:eF:=⟨0,0,[],[],[],⟨[],[],0,0,0,0,0⟩,⟨0,0,[],0⟩⟩
theorem agN:dq P 31=oo TD bB bB bB bB:=by rfl
theorem aAi:ct Co:=nw (nw (aen Mi) aem) agL
theorem aAj:Co.length<=2328:=by grind[B0,Mi,TC,Co,rb]
theorem aAk:fS 100 [.int .u8 0]=bj rb:=by rfl
theorem aAl:(Value.string ⟨#[99,111,114,101]⟩)=bZ gx:=rfl
theorem Mj(hO:al H (S++F))(ag:∀ab ic a6 X,xb (S++X) (iE gx) bB ic bB a6->al ab ((S++X)++F)->aa (agg (oo (iE gx) bB ic bB a6)) ab):wCall P 26 [] H aa:=by
 apply aoD;unfold YD;rw[agN];refine dT hO ?_;clear hO;intro t0 H hO;refine ih hO (agM _) ?_;clear hO;intro bP H hO;refine Lj hO 0 rfl (by omega) ?_;rw[aAc];refine F9 (k:=.i64) (fh:=.i64) (size:=1) (bytes:=1) (z:=[.int .u8 0]) (n:=100) hO (by omega) (by omega) ?_;clear hO;intro sP H hO;rw[aAk]at hO
 replace hO:al H ((S++[(bP,⟨bj oU,true⟩),(sP,⟨bj rb,true⟩)])++(F++[(t0,⟨oo TD bB bB bB bB,true⟩)])):=
  hO.fP (iD fun p=>by grind)
 rw[aAl];have qa:rb.length=100:=List.length_replicate;refine az7 (key:=oU) (tH:=rb) (cz:=gx) (dN:=3) (aE:=64) (yh (k:=0) rfl (.inr rfl) rfl) agK (by decide) (yh (k:=1) rfl (.inr rfl) qa) agL (by omega) (.inr ⟨sP,0,100,3,S.length+1,_,rfl,aC rfl,zB _,.inl rfl⟩) (by decide) (by decide) (by decide) hO (fun h=>absurd TC h) ?_;clear hO;intro _ H mU bb X Aa l7 hO
 replace Aa:cl ((S++[(bP,⟨bj oU,true⟩),(sP,⟨bj rb,true⟩)])++X) mU Co:=Aa
 replace l7:fR ((S++[(bP,⟨bj oU,true⟩),(sP,⟨bj rb,true⟩)])++X) bb xc.a1:=l7
 refine ai (show _=some mU from rfl) (ai (show _=some (agg (b4 xc bb))from rfl) (ai (show _=some (.bool true)from rfl) ?_));rw[Ez];refine dT hO ?_;clear hO;intro dL H hO;refine gl hO (_+0) (aC rfl) (e1 rfl) (e1 Mi.dR) (pg l7.gd) ?_;clear hO;intro H hO
 replace hO:=(hO.cy).left
 obtain⟨BT,gS,jY,aAm⟩:=Aa.lC;subst aAm;refine ai (aAd _ _ _ _) (ih hO (aAe _ _ _ _ _) ?_);clear hO;intro ET H hO;refine ih hO (agM _) ?_;clear hO;intro dH H hO;refine Lj hO 0 rfl (by omega) (ai (aAf _ _ _) (ai aAg (ai (aAh _ _ _ _ _ _) ?_)));obtain⟨S2,agO⟩:∃S2,S2=(S++[(bP,(⟨bj oU,true⟩:az)),(sP,⟨bj rb,true⟩)])++X:=⟨_,rfl⟩;rw[<- agO]at hO Aa l7
 replace hO:al H (((S2++[(ET,⟨[bZ gx,.slice BT gS jY],true⟩),(dH,⟨bj oU,true⟩)])++F)++[(t0,⟨oo TD bB bB bB bB,true⟩)]):=
  hO.fP (iD fun p=>by grind)
 have hW:xb (S2++[(ET,⟨[bZ gx,.slice BT gS jY],true⟩),(dH,⟨bj oU,true⟩)]) (iE gx) bB (aF ET 0 1 5) bB (aF dH 0 3 3):=by refine⟨cl.nil,(by intro x ao;cases ao),⟨[[bZ gx,.slice BT gS jY]],.inr ⟨ET,5,S2.length+0,true,rfl,aC rfl,rfl⟩,Al.cons ⟨_,rfl,Aa.bo,aAi⟩ Al.nil⟩,j3.nil,(by intro f hf;cases hf),yh (k:=1) rfl (.inr rfl) rfl,agK⟩
 refine gl hO (_+0) (aC rfl) rfl rfl rfl ?_;clear hO;intro H hO
 replace hO:=hO.cy
 refine hi hO (_+0) (aC rfl) rfl (by omega) ?_;subst agO;have e:((S++[(bP,(⟨bj oU,true⟩:az)),(sP,⟨bj rb,true⟩)])++X)++[(ET,(⟨[bZ gx,.slice BT gS jY],true⟩:az)),(dH,⟨bj oU,true⟩)]=S++(([(bP,(⟨bj oU,true⟩:az)),(sP,⟨bj rb,true⟩)]++X)++[(ET,(⟨[bZ gx,.slice BT gS jY],true⟩:az)),(dH,⟨bj oU,true⟩)]):=by simp_all
 rw[e]at hW hO;exact ag H _ _ _ hW hO.left
end J
namespace J
open Go Go.Ab
variable{l aG:dV}{c:eL}{bf rT:hC}{n:Nat}{bz:List (Int×List Int)}{cU:List jl}{b:Bool}{aj:List Int}{w k:Nat}{m:df}{t:pT}{D:List Int}
def sQ(w k:Nat):List Int:=(List.range' w (k-w)).map fun i=>((i:Nat):Int)
theorem HO:sQ w w=[]:=by simp[sQ]
theorem agP(h:w<k):sQ w k=(w:Int)::sQ (w+1) k:=by unfold sQ;rw[show k-w=(k-(w+1))+1 by omega,List.range'_succ];rfl
theorem agQ(h:w<=k):sQ w (k+1)=sQ w k++[(k:Int)]:=by
 unfold sQ;rw[show k+1-w=(k-w)+1 by omega,List.range'_concat,List.map_append]
 simp_all
theorem agR{x:Int}(ao:x∈sQ (w+1) k):x≠w:=by grind[sQ]
theorem Mk:(sQ w k).length=k-w:=by simp[sQ]
def oV(m:df)(k:Nat):Int:=if k=m.a1.length then-2 else(k:Int)
inductive rW:dV->eL->Prop
 | head {l:dV} {c:eL}:l.dc=none->c.aw=none->c.e7=[]->c.cZ=false->l.eo=-1->c.er=[]->c.cU=[]->rW l c
 | pt {l:dV} {c:eL} (bs:List Int):l.dc=none->c.aw=none->c.e7=[]->c.cZ=false->l.eo=-2->c.er=[(-1,bs)]->c.cU=[]->rW l c
 | jG {l:dV} {c:eL}:l.dc=none->c.aw=none->c.e7=[]->c.cZ=false->l.eo=-2->c.er=[]->c.cU=[.il (-1)]->rW l c
 | good {l:dV} {c:eL} (h:Int):l.dc=none->c.aw=some ([],0)->c.cZ=false->l.eo=-2->c.er=[]->c.cU=[.nk h c.aW]->eB c.aW->rW l c
 | il {l:dV} {c:eL} (h:Int) (aj:List Int) (w:Nat):l.dc=some (h,c.aW)->eB c.aW->c.aw=some (aj,w)->w<c.aW.a1.length->c.cZ=false->c.cU=[.il w]->(∀p∈c.er,p.1≠w)->rW l c
 | on {l:dV} {c:eL} (h:Int) (aj:List Int) (w k:Nat) (D:List Int):l.dc=some (h,c.aW)->eB c.aW->c.aw=some (aj,w)->w<=k->k<=c.aW.a1.length->c.cU=[]->l.eo=oV c.aW k->c.er.map (·.1)=D++sQ w k->(∀d∈D,d≠w)->(w=c.aW.a1.length->D=[])->(c.cZ=true->w=c.aW.a1.length)->rW l c
theorem Cp(h:eB m):0<m.a1.length:=by have fo:=h.2.2.2.2.2.2.2.2.1;unfold l9 at fo;have ad:=h.2.2.2.1;have af:=h.2.2.2.2.2.1;rw[if_neg (by omega)]at fo;have:=Int.ediv_nonneg (show 0<=m.c0-1 by omega) (show 0<=m.aE by omega);omega
theorem rW.agS(h:rW l c)(U:iC n l c.er c.cU bf=(b,aG,bz,cU,rT))(he:aG.bu=0):rW aG {c with er:=bz,cU:=cU}:=by
 unfold iC at U;split at U
 ·cases U;exact absurd he (by assumption)
 rename_i xQ;split at U
 ·-- a pM
  rename_i s r mF;cases U;cases h with
  | head ad af ax aO bl bL cn=>rw[cn]at mF;cases mF
  | pt bs ad af ax aO bl bL cn=>rw[cn]at mF;cases mF
  | jG ad af ax aO bl bL cn=>
   rw[cn]at mF;cases mF;have HP:l.rS (-1)=true:=by simp_all[dV.rS]
   unfold dV.follow at he⊢;simp only[HP]at he⊢;rw[if_neg (by decide)]at he⊢;split at he
   ·cases he
   ·rename_i aD;rw[if_neg aD];exact .head ad af ax aO rfl bL rfl
  | good g ad af aO bl bL cn dA=>
   rw[cn]at mF;cases mF;unfold dV.follow at he⊢;simp only at he⊢;split at he
   ·cases he
   ·rename_i aD;rw[if_neg aD];have bM:=Cp dA;refine .on g [] 0 0 [] rfl dA af (Nat.le_refl 0) (Nat.zero_le _) rfl ?_ (by simp_all[HO]) (by simp) (fun _=>rfl) (fun h=>by simp_all);show(0:Int)=oV c.aW 0;unfold oV;omega
  | il g aj w ad af ax aO bl bL cn=>
   rw[bL]at mF;cases mF;have HP:l.rS w=true:=by simp_all[dV.rS]
   unfold dV.follow at he⊢;simp only[HP]at he⊢;rw[if_neg (by decide)]at he⊢;split at he
   ·cases he
   ·rename_i aD;rw[if_neg aD];refine .on g aj w w (c.er.map (·.1)) ad af ax (Nat.le_refl w) (by grind) rfl ?_ (by simp_all[HO]) ?_ (fun h=>by simp_all) (fun h=>by simp_all)
    ·show(w:Int)=oV c.aW w;unfold oV;omega
    grind
  | on g aj w k D ad af ax aO bl bL cn dA fo hS ke=>rw[bL]at mF;cases mF
 ·rename_i mF;split at U
  ·cases U;rw[show({c with er:=c.er,cU:=[]}:eL)=c by rw[<- mF]];exact h
  rename_i aM;rw[not_or]at aM;generalize hf:bf.mS l.fs l.jn.1 l.jn.2=r at U;obtain⟨⟨Cf,Tc⟩,fn⟩:=r;simp only at U;split at U
  ·-- Av pt
   cases U;cases h with
   | head ad af ax aO bl bL cn=>
    have e:l.on={l with eo:=-2}:=by simp_all[dV.on]
    rw[e,bl,bL];exact .pt Cf ad af ax aO rfl rfl rfl
   | pt bs ad af ax aO bl bL cn=>exact absurd bl aM.1
   | jG ad af ax aO bl bL cn=>exact absurd bl aM.1
   | good g ad af aO bl bL cn dA=>exact absurd bl aM.1
   | il g aj w ad af ax aO bl bL cn=>rw[bL]at mF;cases mF
   | on g aj w k D ad af ax aO bl bL cn dA fo hS ke=>
    have kF:k<c.aW.a1.length:=by have:=aM.1;rw[cn]at this;unfold oV at this;omega
    have TE:l.eo=k:=by simp_all[oV]
    have e:l.on={l with eo:=oV c.aW (k+1)}:=by
     unfold dV.on oV
     grind
    rw[e];refine .on g aj w (k+1) D ad af ax (by omega) (by grind) rfl rfl ?_ fo hS ke
    simp_all[agQ]
  split at U
  ·-- lost
   cases U;unfold dV.try at he⊢;split at he
   ·cases he
   ·rename_i aD;rw[if_neg aD];rw[show({c with er:=c.er,cU:=[]}:eL)=c by rw[<- mF]];cases h with
    | head ad af ax aO bl bL cn=>exact .head ad af ax aO bl bL cn
    | pt bs ad af ax aO bl bL cn=>exact .pt bs ad af ax aO bl bL cn
    | jG ad af ax aO bl bL cn=>exact .jG ad af ax aO bl bL cn
    | good g ad af aO bl bL cn dA=>exact .good g ad af aO bl bL cn dA
    | il g aj w ad af ax aO bl bL cn=>exact .il g aj w ad af ax aO bl bL cn
    | on g aj w k D ad af ax aO bl bL cn dA fo hS ke=>exact .on g aj w k D ad af ax aO bl bL cn dA fo hS ke
  ·cases U;rename_i aR _;exact absurd he aR
theorem aAn{key bs:List Int}(h:(eN key bs).2.2=0)(br:oN (eN key bs).1 t=0):eB (eN key bs).1:=by
 unfold oN at br;split at br
 ·cases br
 ·rename_i U;exact Classical.not_not.1 U
theorem agT(r:List (Int×List Int))(bs:List Int):(c.oO r).zU bs=if(eN c.key bs).2.2≠0 then {c with er:=r,cU:=c.cU++[.il (-1)]}else if oN (eN c.key bs).1 c.t≠0 then {c with er:=r,bu:=oN (eN c.key bs).1 c.t}else {c with er:=r,cU:=c.cU++[.nk (eN c.key bs).2.1 (eN c.key bs).1],e7:=c.e7++[.nk (eN c.key bs).2.1 (eN c.key bs).1],aW:=(eN c.key bs).1,aw:=some ([],0)}:=rfl
theorem agU(r:List (Int×List Int))(aj:List Int)(w:Nat)(bg:List Int):(c.oO r).gR aj w bg=if((bg.length:Nat):Int)=(gw c.aW w).2/\gB bg=c.aW.a1.getD w []then {c with er:=r,e7:=c.e7++[.body w bg],aw:=some (aj++bg,w+1)}else {c with er:=r,cU:=c.cU++[.il w]}:=rfl
theorem rW.looks(h:rW l c)(he:c.step.2.bu=0):rW l c.step.2:=by
 unfold eL.step at he⊢;split at he
 ·rename_i aR;rw[if_pos aR];exact h
 rename_i aR;rw[if_neg aR];rw[not_or]at aR;have wW:c.cZ=false:=by simp_all
 cases h with
 | head ad af ax aO bl bL cn=>simp only[af,bL];exact .head ad af ax aO bl bL cn
 | jG ad af ax aO bl bL cn=>simp only[af,bL];exact .jG ad af ax aO bl bL cn
 | pt bs ad af ax aO bl bL cn=>
  simp only[af,bL]at he⊢;split at he
  ·rename_i hf;rw[if_pos hf];exact .pt bs ad af ax aO bl bL cn
  rename_i hf;rw[if_neg hf];simp only[if_true]at he⊢;rw[agT]at he⊢;by_cases an:(eN c.key bs).2.2≠0
  ·rw[if_pos an];refine .jG ad af ax aO bl rfl ?_
   simp_all
  rw[if_neg an]at he⊢;by_cases br:oN (eN c.key bs).1 c.t≠0
  ·rw[if_pos br]at he;exact absurd he br
  rw[if_neg br];refine .good (eN c.key bs).2.1 ad rfl aO bl rfl ?_ (aAn (Classical.not_not.1 an) (Classical.not_not.1 br))
  simp_all
 | good g ad af aO bl bL cn dA=>have bM:=Cp dA;simp only[af,bL];rw[if_neg (by omega)];exact .good g ad af aO bl bL cn dA
 | il g aj w ad af ax aO bl bL cn=>
  simp only[ax]at he⊢;rw[if_neg (by omega)]at he⊢;cases hain:c.er with
  | nil=>exact .il g aj w ad af ax aO bl bL cn
  | cons p r=>
   rw[hain]at he;simp only at he⊢;split at he
   ·rename_i hf;rw[if_pos hf];exact .il g aj w ad af ax aO bl bL cn
   rename_i hf;rw[if_neg hf];have xH:p.1≠w:=cn p (by simp_all);simp only[if_neg xH,eL.oO];exact .il g aj w ad af ax aO bl bL fun q b5=>cn q (by simp_all)
 | on g aj w k D ad af ax aO bl bL cn dA fo hS ke=>
  simp only[ax]at he⊢;by_cases aM:w=c.aW.a1.length
  ·rw[if_pos aM]at he⊢;unfold eL.lB at he⊢;split at he
   ·rename_i hf;rw[if_pos hf];exact .on g aj w k D ad af ax aO bl bL cn dA fo hS ke
   rename_i hf;rw[if_neg hf];split at he
   ·rename_i aw;rw[if_pos aw];exact .on g aj w k D ad af ax aO bl bL cn dA fo hS fun _=>aM
   ·cases he
  ·rw[if_neg aM]at he⊢;cases hain:c.er with
   | nil=>exact .on g aj w k D ad af ax aO bl bL cn dA fo hS ke
   | cons p r=>
    rw[hain]at he dA;simp only at he⊢;split at he
    ·rename_i hf;rw[if_pos hf];exact .on g aj w k D ad af ax aO bl bL cn (by simp_all) fo hS ke
    rename_i hf;rw[if_neg hf];simp only at he⊢;rw[List.map_cons]at dA;cases D with
    | cons d D=>
     injection dA with bn bF
     have xH:p.1≠w:=by simp_all
     simp only[if_neg xH,eL.oO];exact .on g aj w k D ad af ax aO bl bL cn bF (fun x ao=>fo x (List.mem_cons_of_mem _ ao)) (fun h=>absurd h aM) ke
    | nil=>
     have TF:w<k:=by grind[HO]
     rw[List.nil_append,agP TF]at dA;injection dA with bn bF
     rw[if_pos bn]at he⊢;rw[agU]at he⊢;by_cases aw:((p.2.length:Nat):Int)=(gw c.aW w).2/\gB p.2=c.aW.a1.getD w []
     ·rw[if_pos aw];refine .on g (aj++p.2) (w+1) k [] ad af rfl (by omega) bl bL cn (by simp_all) (by simp) (fun _=>rfl) (fun h=>?_)
      simp_all
     ·rw[if_neg aw];refine .il g aj w ad af ax (by grind) wW ?_ fun q b5=>?_
      ·simp_all
      grind[agR,List.mem_map_of_mem]
theorem rW.TG(h:rW l c)(aX:0<c.bN)(aD:l.bu=0)(aA:c.bu=0):(iC c.bN l c.er c.cU bf).1=true\/c.step.1=true\/c.e7.length=c.gH\/c.cZ=true:=by
 have key:c.cZ=true\/c.cZ=false:=by simp_all
 rcases key with aJ|aJ
 ·simp_all
 have aCP:∀s r,c.cU=s::r->(iC c.bN l c.er c.cU bf).1=true:=by simp_all[iC]
 have mS:c.cU=[]->l.eo≠-2->c.er.length≠c.bN->(iC c.bN l c.er c.cU bf).1=true:=by
  intro an ad af;unfold iC
  grind
 have tA:∀p r,c.er=p::r->c.cU=[]->(c.aw=none\/∃aj w,c.aw=some (aj,w)/\w≠c.aW.a1.length)->c.e7.length≠c.gH->c.step.1=true:=by
  intro p r br an hh bJ;unfold eL.step
  grind
 by_cases bJ:c.e7.length=c.gH
 ·omega
 cases h with
 | head ad af ax aO bl bL cn=>grind
 | pt bs ad af ax aO bl bL cn=>simp_all
 | jG ad af ax aO bl bL cn=>simp_all
 | good g ad af aO bl bL cn dA=>simp_all
 | il g aj w ad af ax aO bl bL cn=>simp_all
 | on g aj w k D ad af ax aO bl bL cn dA fo hS ke=>
  by_cases aM:w=c.aW.a1.length
  ·right;left;unfold eL.step;rw[if_neg (by simp_all)];simp only[ax];rw[if_pos aM];unfold eL.lB
   grind
  ·cases hain:c.er with
   | nil=>
    left;have ag:k=w:=by
     rw[hain]at dA;have:=congrArg List.length dA
     grind[Mk]
    have aR:=mS bL (by simp_all[oV]) (by grind)
    simp_all
   | cons p r=>simp_all
end J
