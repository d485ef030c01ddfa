/- texts of the nf, fh behind the mA -/
import Derived.Test.YtifflnhooaophaaGreatDoorUM
set_option linter.unusedVariables false
set_option linter.unusedSimpArgs false
set_option linter.unusedSectionVars false
set_option maxHeartbeats 8000000
set_option maxRecDepth 100000
open List Nat
namespace J
open Go Go.Ab
variable[cu:b0]
variable{H:au}{ae b9 S F X G:List (Nat×ax)}{aa:VH}{v w fv:Value}{bE:List Value}{r n f j N b8 bz ca:Nat}{s:fF}{m:br}{L:lK}{aR:gU}
structure BM where
 key:List Int
 cF:List UInt8
 iS:Int
 eu:Int
 DG:Int
 aB1:Int
 ea:Int
structure Gl where
 iK:Int
 aC:Int
 ff:List UInt8
 dc:Nat
def my(c:BM)(kv:Value):List Value:=[kv,bS c.cF,int c.iS,int c.eu,int c.DG,int c.aB1,int c.ea]
def mY(j:Gl):List Value:=[int j.iK,int j.aC,bS j.ff,bT .u64 j.dc]
def yz(c:BM)(j:Gl):dE:=⟨j.ff,(max 0 (min c.iS 100)).toNat,none,-1,0⟩
def ait(c:BM)(j:Gl)(s:fF)(m:br)(aR:gU):bX:=
 {l:=yz c j
  c:={key:=c.key,t:=⟨c.cF,j.dc,64*(m.size (s.part j.aC):Int)⟩,dB:=[],cA:=[],eB:=[],bz:=eK c.eu,fQ:=eK c.eu,aS:=eY,al:=none,cw:=false,bj:=0}
  w:={s:=s,cy:=s.fz,cQ:=j.aC,q:=[],aS:=eY,ep:=0,fy:=[],wr:=0,cC:=0,bj:=0,m:=m}
  aR:=aR
  d:=⟨0,max 1 (min c.DG 1000000),[0,0,0]⟩
  st:=1
  fg:=0}
theorem aB2(b8 t:Nat):(dq P 157).f [(0,ai b8 0),(1,bT .u64 t),(9,int 1)]=some (agg [ai b8 0,bT .u64 t,.pointer none,.pointer none,.pointer none,.pointer none,.pointer none,.pointer none,.pointer none,int 1,int 0]):=by rfl
theorem aB3(l:List UInt8)(f:Nat)(r:Int):(dq P 94).f [(0,bS l),(1,bT .u64 f),(2,int r)]=some (agg (sR ⟨l,f,r⟩)):=by rfl
theorem aB4(bz r1 r2:Nat)(l:List UInt8)(t:Int):(dq P 244).f [(0,ai bz 0),(1,bS l),(2,int t),(3,ai r1 0),(4,ai r2 0),(6,int (-1))]=some (agg [ai bz 0,bS l,int t,ai r1 0,ai r2 0,.pointer none,int (-1),int 0]):=by rfl
theorem aB5{r1 r2:Nat}{c:BM}{cb:Gl}(hO:aj H ae)(ah:∀ab dz,aj ab (ae++[(dz,⟨gV bz r1 r2 (yz c cb) (.pointer none),true⟩)])->aa (ai dz 0) ab):ay P 80 [ai bz 0,bS cb.ff,int c.iS,ai r1 0,ai r2 0] H aa:=by apply arN;unfold aby;refine bW tl (bW x3 (ag (aB4 _ _ _ _ _) (dH hO ?_)));intro dz H hO;refine ah H dz ?_;unfold gV yz;simp only;rw[Int.toNat_of_nonneg (by omega)];exact hO
theorem aiu{c:BM}{kv:Value}(h:RdB S kv c.key):(my c kv).all fY=true:=by show(fY kv&&_)=true;rw[RdB.gb h];rfl
theorem aiv{c:BM}{kv:Value}(h:RdB S kv c.key):(my c kv).all eL=true:=by show(eL kv&&_)=true;rw[RdB.aih h];rfl
theorem aB6{c:BM}{cb:Gl}{kv:Value}(wY:RdB S kv c.key)(Hc:cE c.key)(l1:c.key.length<=1000000)(qb:c.cF.length<=1000000)(Wl:cb.ff.length<=1000000)(hg:s.fz<1000)(al:s.b4)(hm:p0 m)(xB:lq L m)(tQ:m.gB N)(fc:m.size ((s.gS cb.iK cb.aC).2.2.part cb.aC)<=100000)(qY:p3 S ca fv aR)(LZ:aR.dk<=N)
  (hO:aj H (((S++F)++((bz,⟨fD ca fv aR.dk,true⟩)::dJ L m))++[(b8,⟨fs s L.cO,true⟩)]))
  (eU:(s.gS cb.iK cb.aC).2.1≠0->∀ab,aj ab (((S++F)++((bz,⟨fD ca fv aR.dk,true⟩)::dJ L m))++[(b8,⟨fs (s.gS cb.iK cb.aC).2.2 L.cO,true⟩)])->aa (.tuple [.pointer none,int (s.gS cb.iK cb.aC).2.1].toArray) ab)
  (pZ:(s.gS cb.iK cb.aC).2.1=0->∀ab q X,q.bz=bz->q.ca=ca->q.b8=b8->q.L=L->cz ab (S++X) F q (ait c cb (s.gS cb.iK cb.aC).2.2 m aR) N->aa (.tuple [ai q.db 0,int 0].toArray) ab):
  ay P 27 [agg (my c kv),ai bz 0,ai b8 0,agg (mY cb)] H aa:=by
 apply aq0;unfold aaJ;obtain⟨sg,eE,nP,rfl⟩:=wY.lk;refine dH hO ?_;intro t4 H hO;refine dH hO ?_;intro hY H hO;have eP:∃G,G=(S++F)++((bz,(⟨fD ca fv aR.dk,true⟩:ax))::dJ L m):=⟨_,rfl⟩;obtain⟨G,eP⟩:=eP;rw[<- eP]at eU hO
 replace hO:aj H ((G++[(b8,⟨fs s L.cO,true⟩)])++[(t4,⟨my c (.slice sg eE nP),true⟩),(hY,⟨mY cb,true⟩)]):=hO.fj (gL fun p=>by
  show List.countP p (((G++[(b8,(⟨fs s L.cO,true⟩:ax))])++[(t4,⟨my c (.slice sg eE nP),true⟩)])++[(hY,⟨mY cb,true⟩)])=_
  simp_all)
 refine ag b7 (aY hO ((G++[(b8,(⟨fs s L.cO,true⟩:ax))]).length+1) (az rfl) (v:=int cb.iK) rfl (ag b7 (aY hO ((G++[(b8,(⟨fs s L.cO,true⟩:ax))]).length+1) (az rfl) (v:=int cb.aC) rfl (aht hg hO ?_))));intro H hO;refine ag kT (ag kU (ag ij (bF (fun h=>?_) (fun h=>?_))));exact eU h H hO.left;have aJ:(s.gS cb.iK cb.aC).2.1=0:=by omega
 have ux:(s.gS cb.iK cb.aC).1=(s.gS cb.iK cb.aC).2.2.fz/\(s.gS cb.iK cb.aC).2.2.b4:=by
  unfold fF.gS at aJ⊢;split
  simp_all
  rename_i aT;rw[if_neg aT]at aJ;split
  simp_all
  exact⟨rfl,⟨by simp_all,al.p⟩⟩
 have pZ:=pZ aJ;generalize (s.gS cb.iK cb.aC).1=mJ at*;generalize (s.gS cb.iK cb.aC).2.2=cl at*;obtain⟨ux,wO⟩:=ux;subst ux;refine ag (aB2 _ _) (dH hO ?_);intro db H hO
 replace hO:aj H (G++[(b8,⟨fs cl L.cO,true⟩),(t4,⟨my c (.slice sg eE nP),true⟩),(hY,⟨mY cb,true⟩),(db,⟨[ai b8 0,bT .u64 cl.fz,.pointer none,.pointer none,.pointer none,.pointer none,.pointer none,.pointer none,.pointer none,int 1,int 0],true⟩)]):=hO.fj (gL fun p=>by
  show List.countP p (((G++[(b8,(⟨fs cl L.cO,true⟩:ax))])++[(t4,⟨my c (.slice sg eE nP),true⟩),(hY,⟨mY cb,true⟩)])++[(db,⟨[ai b8 0,bT .u64 cl.fz,.pointer none,.pointer none,.pointer none,.pointer none,.pointer none,.pointer none,.pointer none,int 1,int 0],true⟩)])=_
  simp_all)
 have NJ:=aiu (c:=c) wY;refine ag b7 (aY hO (G.length+1) (az rfl) (v:=int c.eu) rfl ?_);have tx:=hO;refine ayt hO ?_;intro H ly hH pw hA hO;refine ag b7 (aY hO (G.length+1) (az rfl) (v:=int c.eu) rfl (⟨ho tx (G.length+1) (az rfl) hO (G.length+1) (az rfl) NJ,?_⟩));have ez:=hO;refine agQ hO ?_;intro H lz fB p4 b6 hO;refine ag b7 (aY hO (G.length+1) (az rfl) (v:=int c.eu) rfl (⟨ho ez (G.length+1) (az rfl) hO (G.length+1) (az rfl) NJ,ho tx (G.length+1) (az rfl) ez (G.length+1) (az rfl) NJ,?_⟩));refine agQ hO ?_;intro H lA dd oZ ka hO
 replace hO:aj H (G++[(b8,⟨fs cl L.cO,true⟩),(t4,⟨my c (.slice sg eE nP),true⟩),(hY,⟨mY cb,true⟩),(db,⟨[ai b8 0,bT .u64 cl.fz,.pointer none,.pointer none,.pointer none,.pointer none,.pointer none,.pointer none,.pointer none,int 1,int 0],true⟩),(ly,⟨pw,true⟩),(hH,⟨dp ly (eK c.eu) 2 0 0,true⟩),(lz,⟨p4,true⟩),(fB,⟨dp lz (eK c.eu) 1 0 0,true⟩),(lA,⟨oZ,true⟩),(dd,⟨dp lA (eK c.eu) 1 0 0,true⟩)]):=hO
 refine aV (fR hO (G.length+3) (az rfl) rfl (show 2<11 by omega) (bE:=[ai b8 0,bT .u64 cl.fz,ai hH 0,.pointer none,.pointer none,.pointer none,.pointer none,.pointer none,.pointer none,int 1,int 0]) rfl ?_);intro H hO;rw[Go.Ab.cD]at hO;refine aV (fR hO (G.length+3) (az rfl) rfl (show 3<11 by omega) (bE:=[ai b8 0,bT .u64 cl.fz,ai hH 0,ai fB 0,.pointer none,.pointer none,.pointer none,.pointer none,.pointer none,int 1,int 0]) rfl ?_);intro H hO;rw[Go.Ab.cD]at hO;refine aV (fR hO (G.length+3) (az rfl) rfl (show 4<11 by omega) (bE:=[ai b8 0,bT .u64 cl.fz,ai hH 0,ai fB 0,ai dd 0,.pointer none,.pointer none,.pointer none,.pointer none,int 1,int 0]) rfl ?_);intro H hO;rw[Go.Ab.cD]at hO
 replace hO:aj H (G++[(b8,⟨fs cl L.cO,true⟩),(t4,⟨my c (.slice sg eE nP),true⟩),(hY,⟨mY cb,true⟩),(db,⟨[ai b8 0,bT .u64 cl.fz,ai hH 0,ai fB 0,ai dd 0,.pointer none,.pointer none,.pointer none,.pointer none,int 1,int 0],true⟩),(ly,⟨pw,true⟩),(hH,⟨dp ly (eK c.eu) 2 0 0,true⟩),(lz,⟨p4,true⟩),(fB,⟨dp lz (eK c.eu) 1 0 0,true⟩),(lA,⟨oZ,true⟩),(dd,⟨dp lA (eK c.eu) 1 0 0,true⟩)]):=hO
 refine ag b7 (aY hO (G.length+1) (az rfl) (v:=bS c.cF) rfl (ag b7 (aY hO (G.length+2) (az rfl) (v:=bT .u64 cb.dc) rfl (ag b7 (aY hO (G.length+2) (az rfl) (v:=int cb.aC) rfl ?_)))));have ez:aj H (((S++F)++((bz,(⟨fD ca fv aR.dk,true⟩:ax))::[(b8,⟨fs cl L.cO,true⟩),(t4,⟨my c (.slice sg eE nP),true⟩),(hY,⟨mY cb,true⟩),(db,⟨[ai b8 0,bT .u64 cl.fz,ai hH 0,ai fB 0,ai dd 0,.pointer none,.pointer none,.pointer none,.pointer none,int 1,int 0],true⟩),(ly,⟨pw,true⟩),(hH,⟨dp ly (eK c.eu) 2 0 0,true⟩),(lz,⟨p4,true⟩),(fB,⟨dp lz (eK c.eu) 1 0 0,true⟩),(lA,⟨oZ,true⟩),(dd,⟨dp lA (eK c.eu) 1 0 0,true⟩)]))++dJ L m):=by rw[eP]at hO;exact hO.fj (gL fun p=>by simp only[countP_append,countP_cons,countP_nil];omega)
 have i1:((S++F)++((bz,(⟨fD ca fv aR.dk,true⟩:ax))::[(b8,⟨fs cl L.cO,true⟩),(t4,⟨my c (.slice sg eE nP),true⟩),(hY,⟨mY cb,true⟩),(db,⟨[ai b8 0,bT .u64 cl.fz,ai hH 0,ai fB 0,ai dd 0,.pointer none,.pointer none,.pointer none,.pointer none,int 1,int 0],true⟩),(ly,⟨pw,true⟩),(hH,⟨dp ly (eK c.eu) 2 0 0,true⟩),(lz,⟨p4,true⟩),(fB,⟨dp lz (eK c.eu) 1 0 0,true⟩),(lA,⟨oZ,true⟩),(dd,⟨dp lA (eK c.eu) 1 0 0,true⟩)]))[(S++F).length+1]?=some (b8,⟨fs cl L.cO,true⟩):=az rfl;refine TT ez i1 ?_;intro cJ dF
 replace dF:aj cJ (G++[(b8,⟨fs cl L.cO,true⟩),(t4,⟨my c (.slice sg eE nP),true⟩),(hY,⟨mY cb,true⟩),(db,⟨[ai b8 0,bT .u64 cl.fz,ai hH 0,ai fB 0,ai dd 0,.pointer none,.pointer none,.pointer none,.pointer none,int 1,int 0],true⟩),(ly,⟨pw,true⟩),(hH,⟨dp ly (eK c.eu) 2 0 0,true⟩),(lz,⟨p4,true⟩),(fB,⟨dp lz (eK c.eu) 1 0 0,true⟩),(lA,⟨oZ,true⟩),(dd,⟨dp lA (eK c.eu) 1 0 0,true⟩)]):=by rw[eP];exact dF.fj (gL fun p=>by simp only[countP_append,countP_cons,countP_nil];omega)
 refine⟨ho hO (G.length+2) (az rfl) dF (G.length+2) (az rfl) rfl,ho hO (G.length+1) (az rfl) dF (G.length+1) (az rfl) NJ,?_⟩;rename_i bB;refine ag (v:=int (64*(m.size (cl.part cb.aC):Int))) (by grind[vA]) (ag (aB3 _ _ _) (dH dF ?_));intro ny H hO;refine fT hO (_+0) (az rfl) (by rfl) rfl rfl ?_;intro H hO
 replace hO:=hO.cD
 replace hO:aj H ((G++[(b8,⟨fs cl L.cO,true⟩),(t4,⟨my c (.slice sg eE nP),true⟩),(hY,⟨mY cb,true⟩),(db,⟨[ai b8 0,bT .u64 cl.fz,ai hH 0,ai fB 0,ai dd 0,.pointer none,.pointer none,.pointer none,.pointer none,int 1,int 0],true⟩),(ly,⟨pw,true⟩),(hH,⟨dp ly (eK c.eu) 2 0 0,true⟩),(lz,⟨p4,true⟩),(fB,⟨dp lz (eK c.eu) 1 0 0,true⟩),(lA,⟨oZ,true⟩),(dd,⟨dp lA (eK c.eu) 1 0 0,true⟩)])++[(ny,⟨sR ⟨c.cF,cb.dc,64*(m.size (cl.part cb.aC):Int)⟩,true⟩)]):=hO
 rw[append_assoc]at hO;refine ag b7 (aY hO (G.length+2) (az rfl) (v:=bS cb.ff) rfl (ag b7 (aY hO (G.length+1) (az rfl) (v:=int c.iS) rfl (aV (aY hO (G.length+3) (az rfl) (v:=ai hH 0) rfl (aV (aY hO (G.length+3) (az rfl) (v:=ai fB 0) rfl (aB5 hO ?_))))))));intro H dz hO;rw[append_assoc]at hO;refine aV (fR hO (G.length+3) (az rfl) rfl (show 5<11 by omega) (bE:=[ai b8 0,bT .u64 cl.fz,ai hH 0,ai fB 0,ai dd 0,ai dz 0,.pointer none,.pointer none,.pointer none,int 1,int 0]) rfl ?_);intro H hO;rw[Go.Ab.cD]at hO
 replace hO:aj H (G++[(b8,⟨fs cl L.cO,true⟩),(t4,⟨my c (.slice sg eE nP),true⟩),(hY,⟨mY cb,true⟩),(db,⟨[ai b8 0,bT .u64 cl.fz,ai hH 0,ai fB 0,ai dd 0,ai dz 0,.pointer none,.pointer none,.pointer none,int 1,int 0],true⟩),(ly,⟨pw,true⟩),(hH,⟨dp ly (eK c.eu) 2 0 0,true⟩),(lz,⟨p4,true⟩),(fB,⟨dp lz (eK c.eu) 1 0 0,true⟩),(lA,⟨oZ,true⟩),(dd,⟨dp lA (eK c.eu) 1 0 0,true⟩),(ny,⟨sR ⟨c.cF,cb.dc,64*(m.size (cl.part cb.aC):Int)⟩,true⟩),(dz,⟨gV bz hH fB (yz c cb) (.pointer none),true⟩)]):=hO
 refine ag b7 (aY hO (G.length+1) (az rfl) (v:=.slice sg eE nP) rfl (gh hO (G.length+10) (az rfl) (n:=3) rfl (by omega) (aV (aY hO (G.length+3) (az rfl) (v:=ai hH 0) rfl (aV (aY hO (G.length+3) (az rfl) (v:=ai fB 0) rfl (aV (aY hO (G.length+3) (az rfl) (v:=ai dd 0) rfl (ay4 (key:=c.key) (t:=⟨c.cF,cb.dc,64*(m.size (cl.part cb.aC):Int)⟩) hO (by rw[eP];exact wY.app.app.app) l1 ?_)))))))));intro H px zV aF hO Nk
 replace hO:aj H ((G++bQ px zV)++[(b8,⟨fs cl L.cO,true⟩),(t4,⟨my c (.slice sg eE nP),true⟩),(hY,⟨mY cb,true⟩),(db,⟨[ai b8 0,bT .u64 cl.fz,ai hH 0,ai fB 0,ai dd 0,ai dz 0,.pointer none,.pointer none,.pointer none,int 1,int 0],true⟩),(ly,⟨pw,true⟩),(hH,⟨dp ly (eK c.eu) 2 0 0,true⟩),(lz,⟨p4,true⟩),(fB,⟨dp lz (eK c.eu) 1 0 0,true⟩),(lA,⟨oZ,true⟩),(dd,⟨dp lA (eK c.eu) 1 0 0,true⟩),(ny,⟨sR ⟨c.cF,cb.dc,64*(m.size (cl.part cb.aC):Int)⟩,true⟩),(dz,⟨gV bz hH fB (yz c cb) (.pointer none),true⟩),(aF,⟨fk px ⟨c.cF,cb.dc,64*(m.size (cl.part cb.aC):Int)⟩ hH fB dd eY bu (.pointer none) false 0,true⟩)]):=hO.fj (gL fun p=>by simp only[countP_append,countP_cons,countP_nil];omega)
 generalize aB7:G++bQ px zV=py at*;refine aV (fR hO (py.length+3) (az rfl) rfl (show 6<11 by omega) (bE:=[ai b8 0,bT .u64 cl.fz,ai hH 0,ai fB 0,ai dd 0,ai dz 0,ai aF 0,.pointer none,.pointer none,int 1,int 0]) rfl ?_);intro H hO;rw[Go.Ab.cD]at hO
 replace hO:aj H (py++[(b8,⟨fs cl L.cO,true⟩),(t4,⟨my c (.slice sg eE nP),true⟩),(hY,⟨mY cb,true⟩),(db,⟨[ai b8 0,bT .u64 cl.fz,ai hH 0,ai fB 0,ai dd 0,ai dz 0,ai aF 0,.pointer none,.pointer none,int 1,int 0],true⟩),(ly,⟨pw,true⟩),(hH,⟨dp ly (eK c.eu) 2 0 0,true⟩),(lz,⟨p4,true⟩),(fB,⟨dp lz (eK c.eu) 1 0 0,true⟩),(lA,⟨oZ,true⟩),(dd,⟨dp lA (eK c.eu) 1 0 0,true⟩),(ny,⟨sR ⟨c.cF,cb.dc,64*(m.size (cl.part cb.aC):Int)⟩,true⟩),(dz,⟨gV bz hH fB (yz c cb) (.pointer none),true⟩),(aF,⟨fk px ⟨c.cF,cb.dc,64*(m.size (cl.part cb.aC):Int)⟩ hH fB dd eY bu (.pointer none) false 0,true⟩)]):=hO
 refine ag b7 (aY hO (py.length+2) (az rfl) (v:=int cb.aC) rfl (aV (aY hO (py.length+3) (az rfl) (v:=ai dd 0) rfl (aAy hO ?_))));intro H rn hO;rw[append_assoc]at hO;refine aV (fR hO (py.length+3) (az rfl) rfl (show 7<11 by omega) (bE:=[ai b8 0,bT .u64 cl.fz,ai hH 0,ai fB 0,ai dd 0,ai dz 0,ai aF 0,ai rn 0,.pointer none,int 1,int 0]) rfl ?_);intro H hO;rw[Go.Ab.cD]at hO
 replace hO:aj H (py++[(b8,⟨fs cl L.cO,true⟩),(t4,⟨my c (.slice sg eE nP),true⟩),(hY,⟨mY cb,true⟩),(db,⟨[ai b8 0,bT .u64 cl.fz,ai hH 0,ai fB 0,ai dd 0,ai dz 0,ai aF 0,ai rn 0,.pointer none,int 1,int 0],true⟩),(ly,⟨pw,true⟩),(hH,⟨dp ly (eK c.eu) 2 0 0,true⟩),(lz,⟨p4,true⟩),(fB,⟨dp lz (eK c.eu) 1 0 0,true⟩),(lA,⟨oZ,true⟩),(dd,⟨dp lA (eK c.eu) 1 0 0,true⟩),(ny,⟨sR ⟨c.cF,cb.dc,64*(m.size (cl.part cb.aC):Int)⟩,true⟩),(dz,⟨gV bz hH fB (yz c cb) (.pointer none),true⟩),(aF,⟨fk px ⟨c.cF,cb.dc,64*(m.size (cl.part cb.aC):Int)⟩ hH fB dd eY bu (.pointer none) false 0,true⟩),(rn,⟨i7 b8 cl.fz cb.aC dd eY bu 0 bu 0 0 0,true⟩)]):=hO
 refine ag b7 (aY hO (py.length+1) (az rfl) (v:=int c.DG) rfl (aA7 (gx:=3) hO ?_));intro eb cn H hO;rw[append_assoc]at hO;refine aV (fR hO (py.length+3) (az rfl) rfl (show 8<11 by omega) (bE:=[ai b8 0,bT .u64 cl.fz,ai hH 0,ai fB 0,ai dd 0,ai dz 0,ai aF 0,ai rn 0,ai cn 0,int 1,int 0]) rfl ?_);intro H hO;rw[Go.Ab.cD]at hO
 replace hO:aj H (py++[(b8,⟨fs cl L.cO,true⟩),(t4,⟨my c (.slice sg eE nP),true⟩),(hY,⟨mY cb,true⟩),(db,⟨[ai b8 0,bT .u64 cl.fz,ai hH 0,ai fB 0,ai dd 0,ai dz 0,ai aF 0,ai rn 0,ai cn 0,int 1,int 0],true⟩),(ly,⟨pw,true⟩),(hH,⟨dp ly (eK c.eu) 2 0 0,true⟩),(lz,⟨p4,true⟩),(fB,⟨dp lz (eK c.eu) 1 0 0,true⟩),(lA,⟨oZ,true⟩),(dd,⟨dp lA (eK c.eu) 1 0 0,true⟩),(ny,⟨sR ⟨c.cF,cb.dc,64*(m.size (cl.part cb.aC):Int)⟩,true⟩),(dz,⟨gV bz hH fB (yz c cb) (.pointer none),true⟩),(aF,⟨fk px ⟨c.cF,cb.dc,64*(m.size (cl.part cb.aC):Int)⟩ hH fB dd eY bu (.pointer none) false 0,true⟩),(rn,⟨i7 b8 cl.fz cb.aC dd eY bu 0 bu 0 0 0,true⟩),(eb,lP [0,0,0]),(cn,lO 0 (max 1 (min c.DG 1000000)) eb 3)]):=hO
 have aGn:jk 2 (eK c.eu) 0 [] pw:=hA;refine pZ H ⟨⟨ly,hH,eK c.eu,0,pw,[]⟩,⟨lz,fB,eK c.eu,0,p4,[]⟩,⟨lA,dd,eK c.eu,0,oZ,[]⟩,aF,rn,b8,dz,bz,ca,cn,eb,db,px,.pointer none,fv,bu,.pointer none,bu,bu,[],L⟩ (bQ px zV) rfl rfl rfl rfl ⟨?_,_,fun _=>rfl,?_⟩;have jC:RdB (S++bQ px zV) px c.key:=Nk.lY.app';have aiw:qs (S++bQ px zV) ⟨ly,hH,eK c.eu,0,pw,[]⟩ []:=⟨hA,.nil,by simp⟩;have aix:qt (S++bQ px zV) ⟨lz,fB,eK c.eu,0,p4,[]⟩ []:=⟨b6,.nil⟩;have aiy:qt (S++bQ px zV) ⟨lA,dd,eK c.eu,0,oZ,[]⟩ []:=⟨ka,.nil⟩;refine⟨Dn,.inl ⟨rfl,rfl⟩,.inl rfl,rfl,Dn,wO,hm,xB,tQ,qY.app,LZ,rfl,?_,by show(0:Int)<=1099511627776;omega,fun _=>⟨⟨jC,Hc,l1,qb,aiw,aix,aiy,rfl,rfl,Dn,.inl ⟨rfl,rfl⟩,.zJ⟩,⟨aiw,aix,rfl,qY.app,⟨Wl,by show(max 0 (min c.iS 100)).toNat<=100;omega,by show(-2:Int)<=-1/\(-1:Int)<=1000;omega,fun _ _ h=>(by cases h),fun _=>.inl rfl⟩⟩,⟨aiy,Dn,.inl ⟨rfl,rfl⟩,?_,(by intro x ao;cases ao),wO,hm,xB,zero_le _,zero_le _⟩,rfl,Int.le_refl 0⟩⟩;intro y ba;have ba:y∈ [(0:Int),0,0]:=ba;simp at ba;subst ba;exact⟨Int.le_refl 0,Int.le_refl 0⟩;exact .inl ⟨rfl,rfl⟩;subst aB7;rw[eP]at hO;refine(hO.sub (b9:=((((S++F)++((bz,(⟨fD ca fv aR.dk,true⟩:ax))::dJ L m))++bQ px zV)++[(b8,⟨fs cl L.cO,true⟩),(db,⟨[ai b8 0,bT .u64 cl.fz,ai hH 0,ai fB 0,ai dd 0,ai dz 0,ai aF 0,ai rn 0,ai cn 0,int 1,int 0],true⟩),(ly,⟨pw,true⟩),(hH,⟨dp ly (eK c.eu) 2 0 0,true⟩),(lz,⟨p4,true⟩),(fB,⟨dp lz (eK c.eu) 1 0 0,true⟩),(lA,⟨oZ,true⟩),(dd,⟨dp lA (eK c.eu) 1 0 0,true⟩),(dz,⟨gV bz hH fB (yz c cb) (.pointer none),true⟩),(aF,⟨fk px ⟨c.cF,cb.dc,64*(m.size (cl.part cb.aC):Int)⟩ hH fB dd eY bu (.pointer none) false 0,true⟩),(rn,⟨i7 b8 cl.fz cb.aC dd eY bu 0 bu 0 0 0,true⟩),(eb,lP [0,0,0]),(cn,lO 0 (max 1 (min c.DG 1000000)) eb 3)])) ?_).fj (gL fun p=>?_)
 refine List.Sublist.append_left ?_ _;refine .cons_cons _ (.cons _ (.cons _ (.cons_cons _ (.cons_cons _ (.cons_cons _ (.cons_cons _ (.cons_cons _ (.cons_cons _ (.cons_cons _ (.cons _ (List.Sublist.refl _)))))))))));show _=List.countP p (((S++bQ px zV)++(F++([(ly,⟨pw,true⟩),(hH,⟨dp ly (eK c.eu) 2 0 0,true⟩),(lz,⟨p4,true⟩),(fB,⟨dp lz (eK c.eu) 1 0 0,true⟩),(lA,⟨oZ,true⟩),(dd,⟨dp lA (eK c.eu) 1 0 0,true⟩),(dz,(⟨gV bz hH fB (yz c cb) (.pointer none),true⟩:ax))]++[])))++([(aF,(⟨fk px ⟨c.cF,cb.dc,64*(m.size (cl.part cb.aC):Int)⟩ hH fB dd eY bu (.pointer none) false 0,true⟩:ax)),(b8,⟨fs cl L.cO,true⟩),(rn,⟨i7 b8 cl.fz cb.aC dd eY bu 0 bu 0 0 0,true⟩),(bz,⟨fD ca fv aR.dk,true⟩),(cn,lO 0 (max 1 (min c.DG 1000000)) eb 3),(eb,lP [0,0,0]),(db,⟨[ai b8 0,bT .u64 cl.fz,ai hH 0,ai fB 0,ai dd 0,ai dz 0,ai aF 0,ai rn 0,ai cn 0,int 1,int 0],true⟩)]++dJ L m));simp only[countP_append,countP_cons,countP_nil];omega
end J
namespace J
open Go Go.Ab
variable[cu:b0]
section
variable{H:au}{ae:List (Nat×ax)}{aa:VH}{w:Value}{e:Int}
variable{bl c0:Nat}{s:List Int}
theorem aB8{n w:Nat}{aiz:Int}(aU:n<=4096)(aM:w<=100000)(Ci:max (0:Int) (min aiz 100000)=w)(hO:aj H ae)(ah:∀ab bl c0,aj ab (ae++ia bl c0 bu (bK.cY n w))->aa (ai bl 0) ab):ay P 55 [int n,int aiz] H aa:=by
 apply ark;unfold aa5;refine bW tl (bW x3 ?_);rw[show max (0:Int) (min (n:Int) 4096)=n by omega,avc];refine HG (k:=.i64) (e6:=.i64) hO (by omega) (by omega) ?_;intro c0 H hO;refine bW tl (bW x3 ?_);rw[Ci];refine ag (avd n c0 w) (dH hO ?_);intro bl H hO
 repeat refine bH ?_
 refine aY hO ((ae++[(c0,(⟨gv n (k7 iW),true⟩:ax))]).length+0) (az rfl) rfl ?_
 repeat refine tq ?_
 rw[aeE]at hO
 replace hO:aj H (ae++ia bl c0 bu {bK.cY n w with cells:=List.replicate n iW}):=by
  have h3:aj H ((ae++[(c0,⟨j2 (List.replicate n iW),true⟩)])++[(bl,⟨[aC c0 0 n 259,bu,int w,int (-1),.bool false],true⟩)]):=hO;have aG:=h3.oi;rw[append_assoc]at aG;have e:jL c0 bu {bK.cY n w with cells:=List.replicate n iW}=[aC c0 0 n 259,bu,int w,int (-1),.bool false]:=by unfold jL;rw[length_replicate];rfl
  show aj H (ae++([(bl,⟨jL c0 bu {bK.cY n w with cells:=List.replicate n iW},true⟩),(c0,⟨j2 (List.replicate n iW),true⟩)]++[]));rw[e];exact aG
 refine arj (fun k aA ab=>∃y:Nat,y<=n/\k=n-y/\aA=[.pointer none,ai bl 0,int n,int y]/\aj ab (ae++ia bl c0 bu {bK.cY n w with cells:=List.replicate y uE++List.replicate (n-y) iW})) _ _ ?_ n _ _ ⟨0,by omega,rfl,rfl,hO⟩;rintro k aA ab ⟨y,ba,rfl,rfl,hO⟩;unfold aa4
 try simp only[cj,ck]
 repeat refine bH ?_
 refine bF (fun h=>?_) (fun h=>?_);have gR:y<n:=by omega
 generalize ka:List.replicate y uE++List.replicate (n-y) iW=C at*;have aGo:C.length=n:=by grind
 have aB9:∀c∈C,c.b4:=by
  intro c aB;rw[<- ka]at aB;rcases mem_append.1 aB with aB|aB
  rw[(mem_replicate.1 aB).2];exact FQ;rw[(mem_replicate.1 aB).2];exact ave
 repeat refine bH ?_
 refine aY hO (ae.length+0) (az rfl) rfl (FP hO ?_);intro cJ dF;refine⟨ho hO (ae.length+0) (az rfl) dF (ae.length+0) (az rfl) rfl,?_⟩;refine FP dF ?_;intro jr l0;refine⟨ho dF (ae.length+0) (az rfl) l0 (ae.length+0) (az rfl) rfl,?_⟩;refine ag (auS (s:=jG) (cl:=jG) rfl rfl) (ag (jD (by omega) (by simp_all)) ?_);have sr:(j2 C).length=n*129:=by grind[aez]
 have Bp:=Mi (f:=k7) (l:=C) (i:=y) (o:=0) (y:=uE) (cY:=k7 uE) (fun c aB=>xa (aB9 c aB)) (by omega) (by rw[xa FQ];omega) (by simp_all[xa,FQ]);rw[xa FQ]at Bp;refine pR l0 (ae.length+1) (az rfl) (show(k7 uE).length=129 from xa FQ) (by grind) (auH _) ?_;intro H hO
 repeat refine bH ?_
 refine⟨_,by omega,y+1,by omega,rfl,rfl,avb (eM:={bK.cY n w with cells:=List.replicate (y+1) uE++List.replicate (n-(y+1)) iW}) hO ?_ ?_ rfl rfl rfl rfl⟩;have a7:0+(y:Int).toNat*129=y*129+0:=by omega
 rw[a7];refine Bp.trans ?_;show(C.set y uE).flatMap k7=j2 (List.replicate (y+1) uE++List.replicate (n-(y+1)) iW);rw[<- ka,set_append_right _ _ (by simp),length_replicate,Nat.sub_self,show n-y=(n-(y+1))+1 by omega,replicate_succ,set_cons_zero,replicate_succ'];simp[j2]
 grind
 have mq:y=n:=by omega
 subst mq;rw[Nat.sub_self,replicate_zero,append_nil]at hO
 repeat refine CR ?_
 exact ah _ bl c0 hO
end
end J
namespace J
open Go Go.Ab
section
variable[cu:b0]
variable{H:au}{S F:List (Nat×ax)}{v w fv:Value}{f j k:Nat}{m:br}{e a b:Int}{fH:List Int}
structure ew where
 lR:Int
 pz:Int
 fH:List Int
 off:qw
 bb:List lQ
 fl:BM
 cb:Gl
def fI(w:ew)(wv ov fv kv:Value):List Value:=int w.lR::int w.pz::wv::ov::fv::(my w.fl kv++mY w.cb)
def NK(x:Int):List Int:=x::List.replicate 63 0
theorem aCa(x:Int):(dq P 102).f [(0,.int .u8 x)]=some (pj (NK x)):=by rfl
theorem aCb{x:Int}(h:0<=x/\x<=255):cE (NK x):=by
 intro y ba;rcases mem_cons.1 ba with rfl|ba
 exact h
 simp_all
theorem aiA(x:Int):(NK x).length=64:=by rfl
def I7(m:br)(x:Int):br:=(m.fE (1+((x.toNat%2:Nat):Int)) ((x.toNat/2:Nat):Int) (NK x)).1
def pA(m:br)(fH:List Int):br:=fH.foldl I7 m
theorem UH{xs:List Int}{y:Nat}(h:RdB S v xs)(ba:y<xs.length):∃(p o c j:Nat) (b:ax),v=aC p o xs.length c/\S[j]?=some (p,b)/\b.cells[o+((y:Nat):Int).toNat*1]?=some (.int .u8 xs[y]):=by
 obtain⟨p,o,c,j,b,h1,h2,h3⟩:=RdB.at h ba
 grind
theorem NL{a:Int}(h:0<=a/\a<=255):iw .i64 (.int .u8 a) H=some (int a,H):=by
 show some (Value.int .i64 (iN .i64 a),H)=_
 grind[AI]
theorem aCc{t0 a8:Value}{bC:LX}{ch:LN}{e9:lK}(hv:RdB S v fH)(vl:cE fH)(aD:fH.length<=30)(hm:p0 m)(xB:lq e9 m)(tQ:m.gB 0)(hO:aj H ((S++F)++dJ e9 m))
  (ah:∀ab cL,e9.Eq cL->p0 (pA m fH)->lq cL (pA m fH)->(pA m fH).gB 30->aj ab ((S++F)++dJ cL (pA m fH))->bC 0 [t0,a8,ai e9.cO 0] ab):
  eJ P true 95 RC 14 [t0,a8,ai e9.cO 0,v,int fH.length,int 0] H bC ch:=by
 refine aqI (fun k aA ab=>∃(y:Nat) (cL:lK),y<=fH.length/\k=fH.length-y/\aA=[t0,a8,ai e9.cO 0,v,int fH.length,int y]/\e9.Eq cL/\p0 (pA m (fH.take y))/\lq cL (pA m (fH.take y))/\(pA m (fH.take y)).gB y/\aj ab ((S++F)++dJ cL (pA m (fH.take y)))) _ _ ?_ fH.length _ _ ⟨0,e9,zero_le _,rfl,rfl,.fC,hm,xB,tQ,hO⟩;rintro k aA H ⟨y,cL,ba,rfl,rfl,he,hm,xB,tQ,hO⟩;unfold aap
 try simp only[cj,ck]
 refine ag fr (bF (fun h=>?_) (fun h=>?_));have gR:y<fH.length:=by omega
 have jo:=vl fH[y] (getElem_mem gR);obtain⟨p,o,c,j,b,rfl,bm,aB⟩:=UH hv gR;refine ag (jD (by omega) (by omega)) (aY hO j (aL (aL bm)) aB ?_);have ux:=I6 gR;have aM:pA m (fH.take (y+1))=I7 (pA m (fH.take y)) fH[y]:=by grind[pA]
 obtain⟨z,dU⟩:∃z:Nat,fH[y]=z:=⟨fH[y].toNat,by omega⟩;unfold I7 at aM;rw[dU]at jo aM⊢;rw[Int.toNat_natCast]at aM;refine bW (NL jo) (ag (uN (by decide)) ?_);have aiB:z%2<2:=mod_lt _ (by decide);generalize aGp:z%2=aCd at*;refine ag (v:=int (1+(aCd:Int))) (by grind[jg]) (bW (NL jo) (ag (Is (by decide) (by omega)) (ag (aCa _) ?_)));rw[<- he.m];refine aeR hm.ok (aiA _) (tQ.mono (by omega)) hO xB ?_;intro cJ tR yY dF jF;refine ag (v:=int ((y+1:Nat):Int)) (by grind[jg]) (⟨_,by omega,y+1,tR,gR,rfl,rfl,he.trans yY,?_,?_,?_,?_⟩);rw[aM];exact ahl (aiA _) (aCb jo) _ hm;rw[aM];exact jF;rw[aM];exact br.aeO tQ;rw[aM];exact dF;have e:y=fH.length:=by omega
 subst e;rw[take_length]at hm xB tQ hO;exact ah H cL he hm xB (tQ.mono aD) hO
end
end J
namespace J
open Go Go.Ab
section
variable[cu:b0]
variable{H:au}{S F xu X R:List (Nat×ax)}{aa:VH}{v w fv:Value}{aq bE:List Value}{r f j N b8 bz cK o:Nat}{s:fF}{m:br}{L:lK}{a b:Int}{fH:List Int}{q:fA}{p:bX}
theorem cz.sub(h:cz H S F q p N)(al:xu.Sublist F):cz H S xu q p N:=by obtain⟨aX,R,U,hO⟩:=h;refine⟨aX,R,U,hO.sub ?_⟩;exact List.Sublist.append_right (List.Sublist.append_left (List.Sublist.append_right al R) S) _
theorem cz.cB(h:cz H S (F++[(cK,⟨aq,true⟩)]) q p N)(hv:aq[o]?=some v)(ah:aa v H):af (aw (ai cK o) H) aa:=by obtain⟨aX,R,U,hO⟩:=h;exact aY hO (S.length+(F.length+0)) (aL (az (aL (az rfl)))) hv ah
theorem cz.st(h:cz H S (F++[(cK,⟨aq,true⟩)]) q p N)(h1:eL v=true)(aU:o<aq.length)(aB:aq.set o v=bE)(ah:∀ab,cz ab S (F++[(cK,⟨bE,true⟩)]) q p N->aa undef ab):af (bx 1 (ai cK o) v H) aa:=by obtain⟨aX,R,U,hO⟩:=h;have ez:aj H (((S++(F++R))++nX q p)++[(cK,⟨aq,true⟩)]):=hO.fj (gL fun p=>by grind);refine uS ez h1 aU aB ?_;intro ab ju;exact ah ab ⟨aX,R,U,ju.fj (gL fun p=>by grind)⟩
def ku(q:fA):List Value:=[ai q.L.cO 0,ai q.bz 0,ai q.b8 0,ai q.db 0,int 0]
theorem aCe(a b c:Nat):(dq P 42).f [(0,ai a 0),(1,ai b 0),(2,ai c 0)]=some (agg [ai a 0,ai b 0,ai c 0,.pointer none,int 0]):=by rfl
theorem aCf:(dq P 108).f [(0,(.int .i64 1)),(1,(.int .i64 2))]=some (agg [int 1,int 2]):=by rfl
theorem aCg(a b c:Int)(H:au):(eV P 48 3).f [(0,int a),(1,int b),(2,int c)] H=some (aC H.next 0 3 3,H.push [int a,int b,int c]):=by rfl
theorem aCh(p:Nat):(ar P .eql 37 true).f (ai p 0) (.pointer none)=some (.bool false):=by rfl
def oy(w:ew):br:={(pA ⟨bK.cY 60 ((max 0 (min w.pz 100000)).toNat:Int),mI 0 [1,w.lR.toNat,w.lR.toNat],0,[]⟩ w.fH).jH.1 with bD:=[]}
def oz:fF:=⟨0,0,0,0,1,2⟩
structure pB (S:List (Nat×ax)) (w:ew) (wv ov fv kv:Value):Prop where
 fH:RdB S wv w.fH
 pq:cE w.fH
 off:sX S ov w.off
 bb:h4 S fv w.bb
 zQ:∀f∈w.bb,f.v<256
 key:RdB S kv w.fl.key
 BB:cE w.fl.key
structure ew.ko (w:ew):Prop where
 s:1<=w.lR/\w.lR<=20
 fH:w.fH.length<=30
 off:w.off.length<=5
 bb:w.bb.length<=60
 key:w.fl.key.length<=200
 cF:w.fl.cF.length<=200
 ff:w.cb.ff.length<=200
 Ws:∀o∈w.off,o.1.length<=200/\o.2.length<=4000
theorem pB.app{w:ew}{wv ov fv kv:Value}(h:pB S w wv ov fv kv):pB (S++X) w wv ov fv kv:=⟨h.fH.app,h.pq,h.off.app,h.bb.app,h.zQ,h.key.app,h.BB⟩
theorem aiC{w:ew}{wv ov fv kv:Value}(h:pB S w wv ov fv kv):(fI w wv ov fv kv).all fY=true:=by
 obtain⟨aP,h1,_⟩:=h.off;have bM:fY ov=true:=by rcases h1 with⟨rfl,_⟩|⟨p,c,j,w,rfl,_⟩<;>rfl
 show(true&&(true&&(fY wv&&(fY ov&&(fY fv&&(my w.fl kv++mY w.cb).all fY)))))=true;rw[RdB.gb h.fH,bM,h.bb.tG,all_append,aiu h.key];rfl
theorem aCi(m:br):∀(fH:List Int),(pA m fH).iA=m.iA:=by
 intro fH;induction fH generalizing m with
 | nil=>rfl
 | cons x r bg=>simp_all[pA,I7,br.avo]
theorem UI(w:ew):(oy w).iA=[(0,1),(1,w.lR.toNat),(1+w.lR.toNat,w.lR.toNat)]:=by
 show(pA _ w.fH).jH.1.iA=_;show(pA _ w.fH).iA=_
 simp_all[aCi,mI]
end
end J
namespace J
open Go Go.Ab
variable{H:au}{ae b9 S F X:List (Nat×ax)}{aa:VH}{v:Value}{aq bE:List Value}{n N b8 bz ca cK o:Nat}{s:fF}{m:br}{aR:gU}{b:Int}{fH:List Int}{q:fA}{p:bX}{w:ew}{wv ov fv kv:Value}
def kg(w:ew):bX:=ait w.fl w.cb (oz.gS w.cb.iK w.cb.aC).2.2 (oy w) ⟨BI w.off,w.bb,0⟩
theorem aCj{BA:Nat}{pz:Int}{cM:List (Nat×Nat)}:br.uP ⟨bK.cY BA pz,cM,0,[]⟩:=by intro c aB x ao;have:c=uE:=eq_of_mem_replicate aB;subst this;have:x=255:=eq_of_mem_replicate ao;omega
theorem aCk{oq:Int}(h:w.lR<=20):(oy w).size oq<=20:=by
 unfold br.size;split;unfold br.r5;rw[UI]
 grind
 omega
theorem Gm[cu:b0](hf:w.ko)(aM:pB S w wv ov fv kv)(hO:aj H (S++F))
  (eU:(oz.gS w.cb.iK w.cb.aC).2.1≠0->∀(cL:b0) ab cK cO bz b8 ae,@aj cL ab (ae++[(cK,⟨[ai cO 0,ai bz 0,ai b8 0,.pointer none,int (oz.gS w.cb.iK w.cb.aC).2.1],true⟩)])->aa (ai cK 0) ab)
  (pZ:(oz.gS w.cb.iK w.cb.aC).2.1=0->∀(cL:b0) ab cK q X,(∀x∈cu.l,x.1<q.ca)->(∃T,cL=jh q.ca (ki T) cu)->@cz cL ab (S++X) (F++[(cK,⟨ku q,true⟩)]) q (kg w) 30->aa (ai cK 0) ab):
  ay P 12 [agg (fI w wv ov fv kv)] H aa:=by
 apply aqJ;unfold aaq;obtain⟨gY,gZ,f3,f4,f5,qR,f7,A6⟩:=hf;have It:=aiC aM;obtain⟨n,aU⟩:=Int.eq_ofNat_of_zero_le (show 0<=w.lR by omega);have aU:w.lR=(n:Int):=aU;refine dH hO ?_;clear hO;intro a8 H hO
 replace hO:aj H (S++(F++[(a8,⟨fI w wv ov fv kv,true⟩)])):=by rw[<- append_assoc];exact hO
 have NM:∀ {b9},((S++(F++[(a8,(⟨fI w wv ov fv kv,true⟩:ax))]))++b9)[S.length+(F.length+0)]?=some (a8,⟨fI w wv ov fv kv,true⟩):=aL (az (az rfl));refine ag b7 (aY hO (S.length+(F.length+0)) (az (az rfl)) (v:=int w.pz) rfl ?_);have ez:=hO;refine aB8 (n:=60) (w:=(max 0 (min w.pz 100000)).toNat) (by omega) (by omega) (by omega) hO ?_;clear hO;intro H bl c0 hO;refine ag b7 (aY hO _ NM (v:=int w.lR) rfl (⟨ho ez (S.length+(F.length+0)) (az (az rfl)) hO _ NM It,?_⟩));refine ag b7 (aY hO _ NM (v:=int w.lR) rfl (⟨ho ez (S.length+(F.length+0)) (az (az rfl)) hO _ NM It,?_⟩));clear ez;rw[aU];refine ik hO (aCg _ _ _ _) ?_;clear hO;intro tS H hO;refine avv (jj:=[1,n,n]) (Sj:=(S++(F++[(a8,(⟨fI w wv ov fv kv,true⟩:ax))])).length+0) (c:=3) (bK.aeF (by omega) (by omega)) hO.oi (az rfl) (by simp) (by simp) (fun x ao=>by simp at ao;omega) (by grind[bK.cY]) (.inl ⟨rfl,rfl,rfl⟩) ?_;clear hO;intro H cO bw hO hv;refine ag kT (ag kU (e3 (fun aA ab=>aA=[ai a8 0,.pointer none,ai cO 0]/\ab=H) ?_ ?_));exact ag (aAz _) (dP rfl (ag ij (ag km (sF (by decide) (⟨rfl,rfl⟩)))));rintro aA ab ⟨rfl,rfl⟩
 try simp only[cj,ck]
 replace hO:aj ab ((S++(F++[(a8,⟨fI w wv ov fv kv,true⟩),(tS,⟨[int 1,int n,int n],true⟩)]))++dJ ⟨cO,bl,c0,bw,bu,bu⟩ ⟨bK.cY 60 ((max 0 (min w.pz 100000)).toNat:Int),mI 0 [1,n,n],0,[]⟩):=
  hO.fj (gL fun p=>by simp_all)
 have o9:p0 ⟨bK.cY 60 ((max 0 (min w.pz 100000)).toNat:Int),mI 0 [1,n,n],0,[]⟩:=by
  refine⟨⟨bK.aeF (by omega) (by omega),?_,by simp_all[Sh]⟩,aCj⟩;intro x ao;have ao:x∈ [(0,1),(0+1,n),(0+1+n,n)]:=ao;show x.1+x.2<=(List.replicate 60 uE).length
  grind
 have aCl:∀ {b9},((S++(F++[(a8,(⟨fI w wv ov fv kv,true⟩:ax)),(tS,(⟨[int 1,int n,int n],true⟩:ax))]))++b9)[S.length+(F.length+0)]?=some (a8,⟨fI w wv ov fv kv,true⟩):=aL (az (az rfl));refine ag b7 (aY hO _ aCl (v:=wv) rfl (bW aM.fH.bO (aCc (e9:=⟨cO,bl,c0,bw,bu,bu⟩) aM.fH aM.pq gZ o9 hv ⟨Nat.le_refl 0,Nat.le_refl 0⟩ hO ?_)));clear hO hv o9;intro H zW DH o9 hv tQ hO;show cond (Nat.beq 0 0) _ _;rw[beq_refl];show ay P 57 [ai cO 0] H _;rw[show cO=zW.cO from DH.m.symm];refine aeS o9.ok (tQ.mono (by omega)) hO hv ?_;have I8:=ahk _ o9;have nR:=br.aeP tQ;clear hO hv;intro H tR yY hO hv;rw[<- yY.m];refine aeT hO hv ?_;clear hO hv;intro H hO hv;have sQ:({(pA ⟨bK.cY 60 ((max 0 (min w.pz 100000)).toNat:Int),mI 0 [1,n,n],0,[]⟩ w.fH).jH.1 with bD:=[]}:br)=oy w:=by simp_all[oy]
 rw[sQ]at hO hv;have aCm:p0 (oy w):=by rw[<- sQ];exact⟨⟨I8.ok.d,I8.ok.s,I8.ok.n⟩,I8.b⟩
 have aCn:(oy w).gB 30:=by rw[<- sQ];exact⟨nR.1,zero_le _⟩
 clear I8 nR tQ o9;generalize q5 (pA ⟨bK.cY 60 ((max 0 (min w.pz 100000)).toNat:Int),mI 0 [1,n,n],0,[]⟩ w.fH).jH.1.bD=ops2 at hO;obtain⟨rp,UJ⟩:∃rp:lK,rp={tR with iq:=bu}:=⟨_,rfl⟩;have MC:tR.cO=rp.cO:=by rw[UJ]
 rw[<- UJ]at hO hv;rw[MC];obtain⟨hp,aiD⟩:∃hp,hp=bQ tR.iq ops2:=⟨_,rfl⟩;rw[<- aiD]at hO;clear UJ MC DH yY aiD
 replace hO:aj H (S++(((F++[(a8,⟨fI w wv ov fv kv,true⟩),(tS,⟨[int 1,int n,int n],true⟩)])++hp)++dJ rp (oy w))):=
  hO.fj (gL fun p=>by simp_all)
 refine ag b7 (aY hO (S.length+(F.length+0)) (az (aL (aL (az rfl)))) (v:=ov) rfl (ag b7 (aY hO (S.length+(F.length+0)) (az (aL (aL (az rfl)))) (v:=fv) rfl (aBZ (fun o bM=>by grind) (by omega) aM.off aM.bb (by omega) aM.zQ hO ?_))));clear hO;intro cL H ca bz DI X GN hL aX hO;refine ag aCf (aAw hO ?_);clear hO;intro H b8 hO;refine ag (aCe _ _ _) (dH hO ?_);clear hO;intro cK H hO
 replace hO:aj H ((((((S++X)++(((F++[(a8,⟨fI w wv ov fv kv,true⟩),(tS,⟨[int 1,int n,int n],true⟩)])++hp)++dJ rp (oy w)))++[(bz,⟨fD ca DI 0,true⟩)])++[(b8,⟨fs oz rp.cO,true⟩)])++[(cK,⟨[ai rp.cO 0,ai bz 0,ai b8 0,.pointer none,int 0],true⟩)])):=hO
 replace hO:aj H ((((S++X)++(((F++[(a8,⟨fI w wv ov fv kv,true⟩),(tS,⟨[int 1,int n,int n],true⟩)])++hp)++[(cK,⟨[ai rp.cO 0,ai bz 0,ai b8 0,.pointer none,int 0],true⟩)]))++((bz,⟨fD ca DI 0,true⟩)::dJ rp (oy w)))++[(b8,⟨fs oz rp.cO,true⟩)]):=
  hO.fj (gL fun p=>by simp only[countP_append,countP_cons,countP_nil];omega)
 obtain⟨wb,UK⟩:∃wb,wb=(F++[(a8,(⟨fI w wv ov fv kv,true⟩:ax)),(tS,⟨[int 1,int n,int n],true⟩)])++hp:=⟨_,rfl⟩;rw[<- UK]at hO;have nn:∀ {b9 UL},((((S++X)++(wb++[(cK,(⟨[ai rp.cO 0,ai bz 0,ai b8 0,.pointer none,int 0],true⟩:ax))]))++b9)++UL)[(S++X).length+(wb.length+0)]?=some (cK,⟨[ai rp.cO 0,ai bz 0,ai b8 0,.pointer none,int 0],true⟩):=aL (aL (az (az rfl)));have B5:∀ {b9 UL aCo},((((S++X)++(wb++aCo))++b9)++UL)[(S++X).length+(F.length+0)]?=some (a8,⟨fI w wv ov fv kv,true⟩):=by rw[UK];exact aL (aL (az (aL (aL (az rfl)))))
 refine e3 (fun aA ab=>aA=[ai a8 0,ai cK 0]/\ab=H) ?_ ?_;exact aV (aY hO _ nn (v:=ai bz 0) rfl (ag (aCh _) (dP rfl (aV (aY hO _ nn (v:=ai b8 0) rfl (ag (aAA _) (ag km (dP rfl (⟨rfl,rfl⟩)))))))));rintro aA ab ⟨rfl,rfl⟩
 try simp only[cj,ck]
 refine ag b7 (iH (aq:=my w.fl kv) hO _ B5 rfl rfl (by omega) (aV (aY hO _ nn (v:=ai bz 0) rfl (aV (aY hO _ nn (v:=ai b8 0) rfl (ag b7 (iH (aq:=mY w.cb) hO _ B5 rfl rfl (by omega) (aB6 (N:=30) (aR:=⟨BI w.off,w.bb,0⟩) (s:=oz) (c:=w.fl) (cb:=w.cb) (aM.key.app) aM.BB (by omega) (by omega) (by omega) (by decide) ⟨by decide,by decide⟩ aCm hv aCn (Nat.le_trans (aCk gY.2) (by omega)) aX (zero_le _) hO ?_ ?_))))))));clear hO;intro h H hO;refine ag kT (ag kU (aV ?_));have ez:aj H ((((S++X)++wb)++(((bz,(⟨fD ca DI 0,true⟩:ax))::dJ rp (oy w))++[(b8,⟨fs (oz.gS w.cb.iK w.cb.aC).2.2 rp.cO,true⟩)]))++[(cK,⟨[ai rp.cO 0,ai bz 0,ai b8 0,.pointer none,int 0],true⟩)]):=
  hO.fj (gL fun p=>by simp only[countP_append,countP_cons,countP_nil];omega)
 refine uS ez rfl (show 3<5 by omega) (bE:=[ai rp.cO 0,ai bz 0,ai b8 0,.pointer none,int 0]) rfl ?_;clear hO ez;intro H hO;refine aV (uS hO rfl (show 4<5 by omega) (bE:=[ai rp.cO 0,ai bz 0,ai b8 0,.pointer none,int (oz.gS w.cb.iK w.cb.aC).2.1]) rfl ?_);clear hO;intro H hO;exact eU h cL H cK _ _ _ _ hO;clear hO;intro h H q lb GS ta aCp aCq hg;subst GS ta aCp aCq;refine ag kT (ag kU (aV (cz.st hg rfl (show 3<5 by omega) (bE:=ku q) rfl ?_)));clear hg;intro H hg;refine aV (cz.st hg rfl (show 4<5 by omega) (bE:=ku q) rfl ?_);clear hg;intro H hg;rw[append_assoc]at hg;refine pZ h cL H cK q (X++lb) GN hL (hg.sub ?_);rw[UK,append_assoc,append_assoc];refine List.Sublist.append_left ?_ F;exact .cons _ (.cons _ (sublist_append_right _ _))
end J
namespace J
open Go Go.Ab
variable[cu:b0]
variable{H:au}{S F:List (Nat×ax)}{aa:VH}{v:Value}{aq:List Value}{f j k o:Nat}{e:Int}{w:ew}{wv ov fv kv:Value}
theorem aCr(aM:sX S ov w.off)(hO:aj H (S++F)){t0:Value}{bC:LX}{ch:LN}(iY:∀ab,ch [.bool true] ab)(zI:(∀o∈w.off,o.1.length<=200/\o.2.length<=4000)->∀ab,aj ab (S++F)->bC 0 [t0] ab)(aU:w.off.length<=5):
  eJ P true 70 RB 4 [t0,ov,int w.off.length,int 0] H bC ch:=by
 refine aqG (fun k aA ab=>∃(y:Nat),y<=w.off.length/\k=w.off.length-y/\aA=[t0,ov,int w.off.length,int y]/\aj ab (S++F)/\∀o∈w.off.take y,o.1.length<=200/\o.2.length<=4000) _ _ ?_ w.off.length _ _ ⟨0,zero_le _,rfl,rfl,hO,by simp⟩;rintro k aA H ⟨y,ba,rfl,rfl,hO,lo⟩;unfold aan
 try simp only[cj,ck]
 refine ag fr (bF (fun h=>?_) (fun h=>?_));have gR:y<w.off.length:=by omega
 obtain⟨p,c,j,pq,aq,kf,rfl,bm,pb,sf,vl⟩:=aM.get gR;refine ag (jD (by omega) (by omega)) ?_;rw[Int.toNat_natCast];refine iH (aq:=[bS w.off[y].1,kf]) hO j (aL bm) pb rfl (by omega) ?_;rw[air];refine dH hO ?_;intro hY H hO;refine fT hO (_+0) (az rfl) rfl rfl (by rw[all_cons,all_cons,UE sf];rfl) ?_;intro H hO
 replace hO:=hO.cD
 replace hO:aj H ((S++F)++[(hY,⟨[bS w.off[y].1,kf],true⟩)]):=hO
 have la:(ar P .add 3 true).f (int y) (int 1)=some (int ((y+1:Nat):Int)):=by grind[jg]
 refine ag b7 (aY hO ((S++F).length+0) (az rfl) (v:=bS w.off[y].1) rfl (bW F3 (ag kS (bF (fun h1=>?_) (fun h1=>?_)))));exact ag (gA h1) (eT rfl (iY H));refine ag b7 (aY hO ((S++F).length+0) (az rfl) (v:=kf) rfl (bW sf.bO (ag kS (ag (gP h1) (bF (fun h2=>?_) (fun h2=>?_))))));exact iY H;refine ag la (⟨_,by omega,y+1,gR,rfl,rfl,hO.left,?_⟩)
 grind[I6]
 have e:y=w.off.length:=by omega
 subst e;rw[take_length]at lo;exact zI lo H hO
theorem UM(aM:pB S w wv ov fv kv)(hO:aj H (S++F))(iY:∀ab,aa (.bool true) ab)(zI:w.ko->∀ab,aj ab (S++F)->aa (.bool false) ab):ay P 11 [agg (fI w wv ov fv kv)] H aa:=by
 apply aqH;unfold aao;refine dH hO ?_;intro a8 H hO;refine e3 (fun aA ab=>aA=[ai a8 0,.bool false]/\ab=H/\(1<=w.lR/\w.lR<=20)/\w.fH.length<=30/\w.off.length<=5/\w.bb.length<=60/\w.fl.key.length<=200/\w.fl.cF.length<=200/\w.cb.ff.length<=200) ?_ ?_
 ·have cB:∀ {o:Nat} {v:Value} {aa:VH},(fI w wv ov fv kv)[o]?=some v->aa v H->af (aw (ai a8 o) H) aa:=fun h1 h2=>aY hO ((S++F).length+0) (az rfl) h1 h2
  refine ag b7 (cB (v:=int w.lR) rfl (ag fr (bF (fun h1=>?_) (fun h1=>?_))))
  ·refine ag (gA h1) ?_
   iterate 6 refine ag j9 ?_
   exact eT rfl (iY _)
  refine ag b7 (cB (v:=int w.lR) rfl (ag kS (ag (gP h1) (bF (fun h2=>?_) (fun h2=>?_)))))
  ·refine ag (gA h2) ?_
   iterate 5 refine ag j9 ?_
   exact eT rfl (iY _)
  refine ag b7 (cB (v:=wv) rfl (bW aM.fH.bO (ag kS (ag (gP h2) (bF (fun h3=>?_) (fun h3=>?_))))))
  ·refine ag (gA h3) ?_
   iterate 4 refine ag j9 ?_
   exact eT rfl (iY _)
  refine ag b7 (cB (v:=ov) rfl (bW aM.off.bO (ag kS (ag (gP h3) (bF (fun aG=>?_) (fun aG=>?_))))))
  ·refine ag (gA aG) ?_
   iterate 3 refine ag j9 ?_
   exact eT rfl (iY _)
  refine ag b7 (cB (v:=fv) rfl (bW aM.bb.bO (ag kS (ag (gP aG) (bF (fun a6=>?_) (fun a6=>?_))))))
  ·refine ag (gA a6) ?_
   iterate 2 refine ag j9 ?_
   exact eT rfl (iY _)
  refine ag b7 (ag b7 (cB (v:=kv) rfl (bW aM.key.bO (ag kS (ag (gP a6) (bF (fun bq=>?_) (fun bq=>?_)))))))
  ·exact ag (gA bq) (ag j9 (eT rfl (iY _)))
  refine ag b7 (ag b7 (cB (v:=bS w.fl.cF) rfl (bW F3 (ag kS (ag (gP bq) (bF (fun bU=>?_) (fun bU=>?_)))))))
  ·exact ag (gA bU) (eT rfl (iY _))
  refine ag b7 (ag b7 (cB (v:=bS w.cb.ff) rfl (bW F3 (ag kS (ag (gP bU) (bF (fun c2=>?_) (fun c2=>?_)))))))
  ·exact iY _
  ·exact⟨rfl,rfl,by omega,by omega,by omega,by omega,by omega,by omega,by omega⟩
 rintro aA ab ⟨rfl,rfl,gY,gZ,f3,f4,f5,qR,f7⟩
 try simp only[cj,ck]
 refine ag b7 (aY hO ((S++F).length+0) (az rfl) (v:=ov) rfl (bW aM.off.bO (aCr (w:=w) aM.off hO.left iY ?_ f3)));intro A6 cJ dF;exact zI ⟨gY,gZ,f3,f4,f5,qR,f7,A6⟩ cJ dF
end J
namespace J
open Go Go.Ab
variable[cu:b0]
variable{H:au}{ae b9 S F X:List (Nat×ax)}{aa:VH}{v iv kv:Value}{r n f j o p cV:Nat}{e b aF:Int}{key ic:List Int}{cF:List UInt8}
theorem aCs{v w:Value}(h1:∀q∈cm [v],q≠p)(h2:∀q∈cm [w],q≠p):qh (cm [v,w]) (cm [ai p 0]):=by
 unfold qh oK;have e:cm [ai p 0]=[p]:=rfl;rw[e,kH,all_eq_true]
 grind[cm,ahW]
theorem aiE(h:pr ae v):∀q∈cm [v],∃(j:Nat) (b:ax),ae[j]?=some (q,b):=by
 intro q bY;rcases h with rfl|⟨p,o,n,c,j,b,rfl,h2,_⟩
 cases bY;have:q=p:=mem_singleton.1 bY
 grind
theorem aiF(wY:RdB S kv key)(Hc:cE key)(l1:key.length<=1000)(aiG:RdB S iv ic)(aCt:cE ic)(tf:ic.length<=100000)(ev:pr S iv)(IC:cV<18446744073709551616)(jE:0<=aF/\aF<=9223372036854775807)(bJ:cF.length<=1000)(hO:aj H (S++F))
  (eU:¬eG (lN cF cV aF ic)->∀v r ab,aa (.tuple [v,r,.bool false].toArray) ab)
  (pZ:eG (lN cF cV aF ic)->∀ab kf aZ X,RdB (S++X) kf (iZ key (lN cF cV aF ic)++ic)->e8 (S++X) aZ (lN cF cV aF ic).aN->aj ab ((S++X)++F)->aa (.tuple [kf,agg (bN (lN cF cV aF ic) aZ),.bool true].toArray) ab):
  ay P 16 [kv,bS cF,bT .u64 cV,int aF,iv] H aa:=by
 apply aqN;unfold aau;rw[yp];refine dH hO ?_;intro rq H hO;have KC:∀ {m:da} {aZ:Value} {uY:List (Nat×ax)} {a7:Int} {H:au},m.b4->e8 uY aZ m.aN->(a7=0↔eG m)->(eG m->m=lN cF cV aF ic)->(¬eG m->¬eG (lN cF cV aF ic))->aj H (((S++F)++[(rq,⟨bN eY bu,true⟩)])++uY)->
   cG (bN eY bu) H fun ny aCu=>
   af (bx 37 ny (agg (bN m aZ)) aCu) fun u r4=>
   af (bZ 37 ny r4) fun TY aCv=>
   ay P 70 [kv,TY] aCv fun aiH aiI=>
   ad (eD 0 aiH) fun aiJ=>
   ad (eD 1 aiH) fun aCw=>
   af (gw 1 1 aiJ iv aiI) fun I9 Ja=>
   af (bZ 37 ny Ja) fun Jb Jc=>
   qh (cm [aiJ,iv]) (cm [ny])/\nm (cm [ny]) aiI.next Ja.next/\(ad ((ar P .eql 3 true).f (int a7) (int 0)) fun DJ=>
   aE DJ (
   ad ((ar P .eql 3 true).f aCw (int 0)) fun UN=>
   ad (aI DJ UN (.bool false)) fun UO=>
   af (bx 37 (ai rq 0) Jb Jc) fun Ua Jd=>
   af (bZ 37 (ai rq 0) Jd) fun r _=>
   aa (.tuple [I9,r,UO].toArray) Jd) (
   ad (aI DJ undef (.bool false)) fun UP=>
   af (bx 37 (ai rq 0) Jb Jc) fun ahe Je=>
   af (bZ 37 (ai rq 0) Je) fun UQ _=>
   aa (.tuple [I9,UQ,UP].toArray) Je)):=by
  intro m aZ uY a7 H ok js DH wF qF hO;refine dH hO ?_;intro ny H hO;refine fT hO (_+0) (az rfl) (eS rfl) (eS ok.dh) (nt js.fh) ?_;intro H hO
  replace hO:=hO.cD
  replace hO:aj H ((((S++F)++[(rq,⟨bN eY bu,true⟩)])++uY)++[(ny,⟨bN m aZ,true⟩)]):=hO
  have NN:∀ {b9},(((((S++F)++[(rq,(⟨bN eY bu,true⟩:ax))])++uY)++[(ny,(⟨bN m aZ,true⟩:ax))])++b9)[(((S++F)++[(rq,(⟨bN eY bu,true⟩:ax))])++uY).length+0]?=some (ny,⟨bN m aZ,true⟩):=aL (az rfl);refine gh hO (_+0) (az rfl) (eS ok.dh) (by omega) ?_;have dy:∀ {ej:Value} {oV:List Value} {aO:List Int} {bt:Int} {H:au},gf ej aO oV->aO.length<=100000->(a7=0->bt=0)->(a7=0->aO=iZ key m)->aj H (((((S++F)++[(rq,⟨bN eY bu,true⟩)])++uY)++[(ny,⟨bN m aZ,true⟩)])++bQ ej oV)->
    af (gw 1 1 ej iv H) fun I9 Ja=>
    af (bZ 37 (ai ny 0) Ja) fun Jb Jc=>
    qh (cm [ej,iv]) (cm [ai ny 0])/\nm (cm [ai ny 0]) H.next Ja.next/\(ad ((ar P .eql 3 true).f (int a7) (int 0)) fun DJ=>
    aE DJ (
    ad ((ar P .eql 3 true).f (int bt) (int 0)) fun UN=>
    ad (aI DJ UN (.bool false)) fun UO=>
    af (bx 37 (ai rq 0) Jb Jc) fun Ua Jd=>
    af (bZ 37 (ai rq 0) Jd) fun r _=>
    aa (.tuple [I9,r,UO].toArray) Jd) (
    ad (aI DJ undef (.bool false)) fun UP=>
    af (bx 37 (ai rq 0) Jb Jc) fun ahe Je=>
    af (bZ 37 (ai rq 0) Je) fun UQ _=>
    aa (.tuple [I9,UQ,UP].toArray) Je)):=by
   intro ej oV aO bt H b3 aGq yY Ud hO;have fo:∀q∈cm [ej],q≠ny:=by intro q bY;obtain⟨j,b,bm⟩:=aiE (gf.xj b3) q bY;exact NA hO (az bm) NN (by grind)
   have fN:∀q∈cm [iv],q≠ny:=by intro q bY;obtain⟨j,b,bm⟩:=aiE ev q bY;have aD:=(List.getElem?_eq_some_iff.1 bm).1;exact NA hO (aL (aL (aL (aL (aL bm))))) NN (by grind)
   have UR:=Ni (ab:=H) (fm:=0) hO NN;refine uv hO b3 (aiG.app.app.app.app) (by omega) ?_;intro cJ ec mG hO dL;refine gh hO _ NN (eS ok.dh) (by omega) (⟨aCs fo fN,UR _,?_⟩);have US:∀ {b9},((((((S++F)++[(rq,(⟨bN eY bu,true⟩:ax))])++uY)++b9)++bQ ec mG))[(S++F).length+0]?=some (rq,⟨bN eY bu,true⟩):=aL (aL (aL (az rfl)));refine ag e2 (bF (fun h=>?_) (fun h=>?_))
   ·rw[yY h];refine ag e2 (ag (gA h) (fT hO _ US (eS rfl) (eS ok.dh) (nt js.fh) ?_));intro jr hO;have U:=DH.1 h;have ez:aj jr (((S++(uY++bQ ec mG))++F)++[(rq,⟨bN m aZ,true⟩),(ny,⟨bN m aZ,true⟩)]):=by rw[append_assoc,append_assoc (((S++F)++_)),append_assoc (S++F),Go.Ab.cD]at hO;refine hO.fj (gL fun p=>?_);show List.countP p ((S++F)++((rq,(⟨bN m aZ,true⟩:ax))::(uY++([(ny,(⟨bN m aZ,true⟩:ax))]++bQ ec mG))))=_;simp only[countP_append,countP_cons,countP_nil];omega
    refine gh ez (((S++(uY++bQ ec mG))++F).length+0) (az rfl) (eS ok.dh) (by omega) ?_;have hm:=wF U;subst hm;rw[Ud h]at dL;have:=pZ U jr ec aZ (uY++bQ ec mG) (by rw[<- append_assoc];exact dL.lY.app') (by rw[<- append_assoc];exact(js.app').app) ez.left;exact this
   ·refine ag (gP h) ?_;have U:¬eG m:=fun aT=>h (DH.2 aT)
    refine fT hO _ US (eS rfl) (eS ok.dh) (nt js.fh) ?_;intro jr hO;exact gh hO _ (Mb US) (eS ok.dh) (by omega) (eU (qF U) _ _ _)
  refine ax0 ok hO (wY.app.app.app.app) ((js.app').app) Hc (by omega) ?_ ?_
  ·intro U cJ dF;refine ag kT (ag kU (dy .nil (by simp) (fun h=>absurd (DH.1 h) U) (fun h=>absurd (DH.1 h) U) ?_));show aj cJ (_++[]);rw[append_nil];exact dF
  ·intro U cJ ej oV dF b3;refine ag kT (ag kU ?_);have ak:=By (key:=key) ok U;exact dy b3 (by omega) (fun _=>rfl) (fun _=>rfl) dF
 refine aAF hO (aiG.app.app) aCt (by omega) IC (by omega) (by omega) ?_ ?_
 ·intro U cJ dF;refine ag kT (ag kU ?_);have aJ:¬eG eY:=fun h=>by obtain⟨_,h,_⟩:=h;exact absurd h (by decide)
  exact KC (uY:=[]) Dn e8.nil ⟨fun h=>(by cases h),fun h=>absurd h aJ⟩ (fun h=>absurd h aJ) (fun _=>U) (by rw[append_nil];exact dF)
 ·intro U cJ aZ dF js;refine ag kT (ag kU ?_);have F8:=aia U;unfold lN at F8;rw[BF]at F8;exact KC (Nv IC (by omega) (by omega) (by omega) (by omega)) js ⟨fun _=>U,fun _=>rfl⟩ (fun _=>rfl) (fun h=>absurd U h) dF
end J
namespace J
open Go Go.Ab
variable[cu:b0]
variable{H:au}{S F X:List (Nat×ax)}{aa:VH}{kv ov:Value}{n f k cK p cV:Nat}{e a b aF:Int}{key ic:List Int}{cF:List UInt8}
def h5:List Int:=[107,101,121]
def sh:List Int:=List.replicate 100 0
def yA:da:=lN hi 3 64 sh
def DK:List Int:=iZ h5 yA++sh
def kG(ff:List UInt8):ew:=⟨4,100,[],[(hi,DK)],[],⟨h5,hi,2,2,10,0,0⟩,⟨1,1,ff,0⟩⟩
theorem UT:eG yA:=ahR Un (by decide) (by decide) (by decide) (by decide) (by decide) (by decide) (by decide) (by decide)
theorem NO:yA.b4:=Nv (by decide) (by decide) (by decide) (by decide) (by decide)
theorem NP:cE h5:=by intro x ao;grind[h5]
theorem aiK:cE sh:=fun x ao=>by have:x=0:=eq_of_mem_replicate ao;omega
theorem NQ(H:au):(eV P 22 3).f [(0,.int .u8 107),(1,.int .u8 101),(2,.int .u8 121)] H=some (aC H.next 0 3 3,H.push (bd h5)):=by rfl
theorem aCx:rD P 22=⟨u6 1 1 [.int .u8 0]⟩:=by rfl
theorem aiL(l:List UInt8)(a:Option Addr)(n c:Nat):(dq P 59).f [(0,bS l),(1,.slice a n c)]=some (agg [bS l,.slice a n c]):=by rfl
theorem aiM(l:List UInt8)(a:Option Addr)(n c:Nat)(H:au):(eV P 23 1).f [(0,agg [bS l,.slice a n c])] H=some (aC H.next 0 1 5,H.push [bS l,.slice a n c]):=by rfl
theorem aCy(a:Option Addr)(n c:Nat):(dq P 26).f [(0,.slice a n c),(1,(.string ⟨#[99,111,114,101]⟩)),(2,(.int .i64 2)),(3,(.int .i64 2)),(4,(.int .i64 10))]=some (agg (my ⟨h5,hi,2,2,10,0,0⟩ (.slice a n c))):=by rfl
theorem aCz:(dq P 29).f [(0,(.int .i64 1)),(1,(.int .i64 1)),(2,(.string ⟨#[99,111,114,101]⟩))]=some (agg (mY ⟨1,1,hi,0⟩)):=by rfl
theorem aCA(a b:Option Addr)(n c m d:Nat):(dq P 31).f [(0,(.int .i64 4)),(1,(.int .i64 100)),(3,.slice a n c),(5,agg (my ⟨h5,hi,2,2,10,0,0⟩ (.slice b m d))),(6,agg (mY ⟨1,1,hi,0⟩))]=some (agg (fI (kG hi) bu (.slice a n c) bu (.slice b m d))):=by rfl
def UU:ew:=⟨0,0,[],[],[],⟨[],[],0,0,0,0,0⟩,⟨0,0,[],0⟩⟩
theorem UW:df P 31=fI UU bu bu bu bu:=by rfl
theorem aCB:cE DK:=mS (mS (Tv NO) Tu) aiK
theorem aCC:DK.length<=2328:=by grind[By,NO,UT,DK,sh]
theorem aCD:gv 100 [.int .u8 0]=bd sh:=by rfl
theorem aiN:(Value.string ⟨#[99,111,114,101]⟩)=bS hi:=rfl
theorem aiO(hO:aj H (S++F))(ah:∀ab ov kv X,pB (S++X) (kG hi) bu ov bu kv->aj ab ((S++X)++F)->aa (agg (fI (kG hi) bu ov bu kv)) ab):ay P 26 [] H aa:=by
 apply aqZ;unfold aaI;rw[UW];refine dH hO ?_;intro t0 H hO;refine ik hO (NQ _) ?_;intro bP H hO;refine F0 hO 0 rfl (by omega) ?_;rw[aCx];refine HG (k:=.i64) (e6:=.i64) (size:=1) (bytes:=1) (z:=[.int .u8 0]) (n:=100) hO (by omega) (by omega) ?_;intro tS H hO;rw[aCD]at hO
 replace hO:aj H ((S++[(bP,⟨bd h5,true⟩),(tS,⟨bd sh,true⟩)])++(F++[(t0,⟨fI UU bu bu bu bu,true⟩)])):=
  hO.fj (gL fun p=>by grind)
 rw[aiN];have qJ:sh.length=100:=length_replicate;refine aiF (key:=h5) (ic:=sh) (cF:=hi) (cV:=3) (aF:=64) (xh (k:=0) rfl (.inr rfl) rfl) NP (by decide) (xh (k:=1) rfl (.inr rfl) qJ) aiK (by omega) (.inr ⟨tS,0,100,3,S.length+1,_,rfl,az rfl,A9 _,.inl rfl⟩) (by decide) (by decide) (by decide) hO (fun h=>absurd UT h) ?_;intro _ H kf aZ X sf js hO
 replace sf:RdB ((S++[(bP,⟨bd h5,true⟩),(tS,⟨bd sh,true⟩)])++X) kf DK:=sf
 replace js:e8 ((S++[(bP,⟨bd h5,true⟩),(tS,⟨bd sh,true⟩)])++X) aZ yA.aN:=js
 refine ag (show _=some kf from rfl) (ag (show _=some (agg (bN yA aZ))from rfl) (ag (show _=some (.bool true)from rfl) ?_));rw[yp];refine dH hO ?_;intro dn H hO;refine fT hO (_+0) (az rfl) (eS rfl) (eS NO.dh) (nt js.fh) ?_;intro H hO
 replace hO:=(hO.cD).left
 obtain⟨pX,cK,iF,UX⟩:=sf.lk;subst UX;refine ag (aiL _ _ _ _) (ik hO (aiM _ _ _ _ _) ?_);intro kZ H hO;refine ik hO (NQ _) ?_;intro cS H hO;refine F0 hO 0 rfl (by omega) (ag (aCy _ _ _) (ag aCz (ag (aCA _ _ _ _ _ _) ?_)));obtain⟨S2,aiP⟩:∃S2,S2=(S++[(bP,(⟨bd h5,true⟩:ax)),(tS,⟨bd sh,true⟩)])++X:=⟨_,rfl⟩;rw[<- aiP]at hO sf js
 replace hO:aj H (((S2++[(kZ,⟨[bS hi,.slice pX cK iF],true⟩),(cS,⟨bd h5,true⟩)])++F)++[(t0,⟨fI UU bu bu bu bu,true⟩)]):=
  hO.fj (gL fun p=>by grind)
 have hW:pB (S2++[(kZ,⟨[bS hi,.slice pX cK iF],true⟩),(cS,⟨bd h5,true⟩)]) (kG hi) bu (aC kZ 0 1 5) bu (aC cS 0 3 3):=by refine⟨RdB.nil,(by intro x ao;cases ao),⟨[[bS hi,.slice pX cK iF]],.inr ⟨kZ,5,S2.length+0,true,rfl,az rfl,rfl⟩,Al.cons ⟨_,rfl,sf.app,aCB⟩ Al.nil⟩,h4.nil,(by intro f hf;cases hf),xh (k:=1) rfl (.inr rfl) rfl,NP⟩
 refine fT hO (_+0) (az rfl) rfl rfl rfl ?_;intro H hO
 replace hO:=hO.cD
 refine gh hO (_+0) (az rfl) rfl (by omega) ?_;subst aiP;have e:((S++[(bP,(⟨bd h5,true⟩:ax)),(tS,⟨bd sh,true⟩)])++X)++[(kZ,(⟨[bS hi,.slice pX cK iF],true⟩:ax)),(cS,⟨bd h5,true⟩)]=S++(([(bP,(⟨bd h5,true⟩:ax)),(tS,⟨bd sh,true⟩)]++X)++[(kZ,(⟨[bS hi,.slice pX cK iF],true⟩:ax)),(cS,⟨bd h5,true⟩)]):=by simp_all
 rw[e]at hW hO;exact ah H _ _ _ hW hO.left
end J
namespace J
open Go Go.Ab
variable{l aA:dE}{c:eg}{aR ox:gU}{n:Nat}{bw:List (Int×List Int)}{cA:List ib}{b:Bool}{xs:List Int}{w k:Nat}{m:da}{t:pY}{D:List Int}
def sY(w k:Nat):List Int:=(List.range' w (k-w)).map fun i=>((i:Nat):Int)
theorem Jf:sY w w=[]:=by simp[sY]
theorem UY(h:w<k):sY w k=(w:Int)::sY (w+1) k:=by unfold sY;rw[show k-w=(k-(w+1))+1 by omega,List.range'_succ];rfl
theorem aiQ(h:w<=k):sY w (k+1)=sY w k++[(k:Int)]:=by
 unfold sY;rw[show k+1-w=(k-w)+1 by omega,List.range'_concat,map_append]
 simp_all
theorem aiR{x:Int}(ao:x∈sY (w+1) k):x≠w:=by grind[sY]
theorem Jg:(sY w k).length=k-w:=by simp[sY]
def mz(m:da)(k:Nat):Int:=if k=m.aN.length then-2 else(k:Int)
inductive oA:dE->eg->Prop
 | head {l:dE} {c:eg}:l.du=none->c.al=none->c.eB=[]->c.cw=false->l.ee=-1->c.dB=[]->c.cA=[]->oA l c
 | mZ {l:dE} {c:eg} (bs:List Int):l.du=none->c.al=none->c.eB=[]->c.cw=false->l.ee=-2->c.dB=[(-1,bs)]->c.cA=[]->oA l c
 | iX {l:dE} {c:eg}:l.du=none->c.al=none->c.eB=[]->c.cw=false->l.ee=-2->c.dB=[]->c.cA=[.hF (-1)]->oA l c
 | good {l:dE} {c:eg} (h:Int):l.du=none->c.al=some ([],0)->c.cw=false->l.ee=-2->c.dB=[]->c.cA=[.mN h c.aS]->eG c.aS->oA l c
 | hF {l:dE} {c:eg} (h:Int) (xs:List Int) (w:Nat):l.du=some (h,c.aS)->eG c.aS->c.al=some (xs,w)->w<c.aS.aN.length->c.cw=false->c.cA=[.hF w]->(∀p∈c.dB,p.1≠w)->oA l c
 | on {l:dE} {c:eg} (h:Int) (xs:List Int) (w k:Nat) (D:List Int):l.du=some (h,c.aS)->eG c.aS->c.al=some (xs,w)->w<=k->k<=c.aS.aN.length->c.cA=[]->l.ee=mz c.aS k->c.dB.map (·.1)=D++sY w k->(∀d∈D,d≠w)->(w=c.aS.aN.length->D=[])->(c.cw=true->w=c.aS.aN.length)->oA l c
theorem BN(h:eG m):0<m.aN.length:=by have fe:=h.2.2.2.2.2.2.2.2.1;unfold l2 at fe;have h1:=h.2.2.2.1;have h2:=h.2.2.2.2.2.1;rw[if_neg (by omega)]at fe;have:=Int.ediv_nonneg (show 0<=m.cT-1 by omega) (show 0<=m.aF by omega);omega
theorem oA.UZ(h:oA l c)(U:hj n l c.dB c.cA aR=(b,aA,bw,cA,ox))(he:aA.bj=0):oA aA {c with dB:=bw,cA:=cA}:=by
 unfold hj at U;split at U;cases U;exact absurd he (by assumption);rename_i x5;split at U
 rename_i s r kl;cases U;cases h with
 | head h1 h2 h3 aG a6 bq bU=>rw[bU]at kl;cases kl
 | mZ bs h1 h2 h3 aG a6 bq bU=>rw[bU]at kl;cases kl
 | iX h1 h2 h3 aG a6 bq bU=>
  rw[bU]at kl;cases kl;have zX:l.p1 (-1)=true:=by simp_all[dE.p1]
  unfold dE.follow at he⊢;simp only[zX]at he⊢;rw[if_neg (by decide)]at he⊢;split at he;cases he;rename_i aD;rw[if_neg aD];exact .head h1 h2 h3 aG rfl bq rfl
 | good g h1 h2 aG a6 bq bU c2=>rw[bU]at kl;cases kl;unfold dE.follow at he⊢;simp only at he⊢;split at he;cases he;rename_i aD;rw[if_neg aD];have bJ:=BN c2;refine .on g [] 0 0 [] rfl c2 h2 (Nat.le_refl 0) (zero_le _) rfl ?_ (by simp_all[Jf]) (by simp) (fun _=>rfl) (fun h=>by simp_all);show(0:Int)=mz c.aS 0;unfold mz;omega
 | hF g xs w h1 h2 h3 aG a6 bq bU=>
  rw[bq]at kl;cases kl;have zX:l.p1 w=true:=by simp_all[dE.p1]
  unfold dE.follow at he⊢;simp only[zX]at he⊢;rw[if_neg (by decide)]at he⊢;split at he;cases he;rename_i aD;rw[if_neg aD];refine .on g xs w w (c.dB.map (·.1)) h1 h2 h3 (Nat.le_refl w) (by grind) rfl ?_ (by simp_all[Jf]) ?_ (fun h=>by simp_all) (fun h=>by simp_all);show(w:Int)=mz c.aS w;unfold mz;omega
  grind
 | on g xs w k D h1 h2 h3 aG a6 bq bU c2 fe gH i6=>rw[bq]at kl;cases kl
 rename_i kl;split at U;cases U;rw[show({c with dB:=c.dB,cA:=[]}:eg)=c by rw[<- kl]];exact h;rename_i aM;rw[not_or]at aM;generalize hf:aR.mx l.ff l.jA.1 l.jA.2=r at U;obtain⟨⟨zQ,NF⟩,fn⟩:=r;simp only at U;split at U
 cases U;cases h with
 | head h1 h2 h3 aG a6 bq bU=>
  have e:l.on={l with ee:=-2}:=by simp_all[dE.on]
  rw[e,a6,bq];exact .mZ zQ h1 h2 h3 aG rfl rfl rfl
 | mZ bs h1 h2 h3 aG a6 bq bU=>exact absurd a6 aM.1
 | iX h1 h2 h3 aG a6 bq bU=>exact absurd a6 aM.1
 | good g h1 h2 aG a6 bq bU c2=>exact absurd a6 aM.1
 | hF g xs w h1 h2 h3 aG a6 bq bU=>rw[bq]at kl;cases kl
 | on g xs w k D h1 h2 h3 aG a6 bq bU c2 fe gH i6=>
  have l1:k<c.aS.aN.length:=by have:=aM.1;rw[bU]at this;unfold mz at this;omega
  have NR:l.ee=k:=by simp_all[mz]
  have e:l.on={l with ee:=mz c.aS (k+1)}:=by
   unfold dE.on mz
   grind
  rw[e];refine .on g xs w (k+1) D h1 h2 h3 (by omega) (by grind) rfl rfl ?_ fe gH i6
  simp_all[aiQ]
 split at U
 cases U;unfold dE.try at he⊢;split at he;cases he;rename_i aD;rw[if_neg aD];rw[show({c with dB:=c.dB,cA:=[]}:eg)=c by rw[<- kl]];cases h with
 | head h1 h2 h3 aG a6 bq bU=>exact .head h1 h2 h3 aG a6 bq bU
 | mZ bs h1 h2 h3 aG a6 bq bU=>exact .mZ bs h1 h2 h3 aG a6 bq bU
 | iX h1 h2 h3 aG a6 bq bU=>exact .iX h1 h2 h3 aG a6 bq bU
 | good g h1 h2 aG a6 bq bU c2=>exact .good g h1 h2 aG a6 bq bU c2
 | hF g xs w h1 h2 h3 aG a6 bq bU=>exact .hF g xs w h1 h2 h3 aG a6 bq bU
 | on g xs w k D h1 h2 h3 aG a6 bq bU c2 fe gH i6=>exact .on g xs w k D h1 h2 h3 aG a6 bq bU c2 fe gH i6
 cases U;rename_i aJ _;exact absurd he aJ
theorem aCE{key bs:List Int}(h:(e4 key bs).2.2=0)(bn:nV (e4 key bs).1 t=0):eG (e4 key bs).1:=by unfold nV at bn;split at bn;cases bn;rename_i U;exact Classical.not_not.1 U
theorem U0(r:List (Int×List Int))(bs:List Int):(c.oo r).yr bs=if(e4 c.key bs).2.2≠0 then {c with dB:=r,cA:=c.cA++[.hF (-1)]}else if nV (e4 c.key bs).1 c.t≠0 then {c with dB:=r,bj:=nV (e4 c.key bs).1 c.t}else {c with dB:=r,cA:=c.cA++[.mN (e4 c.key bs).2.1 (e4 c.key bs).1],eB:=c.eB++[.mN (e4 c.key bs).2.1 (e4 c.key bs).1],aS:=(e4 c.key bs).1,al:=some ([],0)}:=rfl
theorem U1(r:List (Int×List Int))(xs:List Int)(w:Nat)(bh:List Int):(c.oo r).gS xs w bh=if((bh.length:Nat):Int)=(gy c.aS w).2/\gC bh=c.aS.aN.getD w []then {c with dB:=r,eB:=c.eB++[.body w bh],al:=some (xs++bh,w+1)}else {c with dB:=r,cA:=c.cA++[.hF w]}:=rfl
theorem oA.looks(h:oA l c)(he:c.step.2.bj=0):oA l c.step.2:=by
 unfold eg.step at he⊢;split at he;rename_i aJ;rw[if_pos aJ];exact h;rename_i aJ;rw[if_neg aJ];rw[not_or]at aJ;have xb:c.cw=false:=by simp_all
 cases h with
 | head h1 h2 h3 aG a6 bq bU=>simp only[h2,bq];exact .head h1 h2 h3 aG a6 bq bU
 | iX h1 h2 h3 aG a6 bq bU=>simp only[h2,bq];exact .iX h1 h2 h3 aG a6 bq bU
 | mZ bs h1 h2 h3 aG a6 bq bU=>
  simp only[h2,bq]at he⊢;split at he;rename_i hf;rw[if_pos hf];exact .mZ bs h1 h2 h3 aG a6 bq bU;rename_i hf;rw[if_neg hf];simp only[if_true]at he⊢;rw[U0]at he⊢;by_cases ak:(e4 c.key bs).2.2≠0;rw[if_pos ak];refine .iX h1 h2 h3 aG a6 rfl ?_
  simp_all
  rw[if_neg ak]at he⊢;by_cases bn:nV (e4 c.key bs).1 c.t≠0;rw[if_pos bn]at he;exact absurd he bn;rw[if_neg bn];refine .good (e4 c.key bs).2.1 h1 rfl aG a6 rfl ?_ (aCE (Classical.not_not.1 ak) (Classical.not_not.1 bn))
  simp_all
 | good g h1 h2 aG a6 bq bU c2=>have bJ:=BN c2;simp only[h2,bq];rw[if_neg (by omega)];exact .good g h1 h2 aG a6 bq bU c2
 | hF g xs w h1 h2 h3 aG a6 bq bU=>
  simp only[h3]at he⊢;rw[if_neg (by omega)]at he⊢;cases hain:c.dB with
  | nil=>exact .hF g xs w h1 h2 h3 aG a6 bq bU
  | cons p r=>rw[hain]at he;simp only at he⊢;split at he;rename_i hf;rw[if_pos hf];exact .hF g xs w h1 h2 h3 aG a6 bq bU;rename_i hf;rw[if_neg hf];have uj:p.1≠w:=bU p (by simp_all);simp only[if_neg uj,eg.oo];exact .hF g xs w h1 h2 h3 aG a6 bq fun q bY=>bU q (by simp_all)
 | on g xs w k D h1 h2 h3 aG a6 bq bU c2 fe gH i6=>
  simp only[h3]at he⊢;by_cases aM:w=c.aS.aN.length;rw[if_pos aM]at he⊢;unfold eg.lH at he⊢;split at he;rename_i hf;rw[if_pos hf];exact .on g xs w k D h1 h2 h3 aG a6 bq bU c2 fe gH i6;rename_i hf;rw[if_neg hf];split at he;rename_i al;rw[if_pos al];exact .on g xs w k D h1 h2 h3 aG a6 bq bU c2 fe gH fun _=>aM
  cases he;rw[if_neg aM]at he⊢;cases hain:c.dB with
  | nil=>exact .on g xs w k D h1 h2 h3 aG a6 bq bU c2 fe gH i6
  | cons p r=>
   rw[hain]at he c2;simp only at he⊢;split at he;rename_i hf;rw[if_pos hf];exact .on g xs w k D h1 h2 h3 aG a6 bq bU (by simp_all) fe gH i6;rename_i hf;rw[if_neg hf];simp only at he⊢;rw[map_cons]at c2;cases D with
   | cons d D=>
    injection c2 with a7 bt
    have uj:p.1≠w:=by simp_all
    simp only[if_neg uj,eg.oo];exact .on g xs w k D h1 h2 h3 aG a6 bq bU bt (fun x ao=>fe x (mem_cons_of_mem _ ao)) (fun h=>absurd h aM) i6
   | nil=>
    have Jh:w<k:=by grind[Jf]
    rw[nil_append,UY Jh]at c2;injection c2 with a7 bt
    rw[if_pos a7]at he⊢;rw[U1]at he⊢;by_cases al:((p.2.length:Nat):Int)=(gy c.aS w).2/\gC p.2=c.aS.aN.getD w [];rw[if_pos al];refine .on g (xs++p.2) (w+1) k [] h1 h2 rfl (by omega) a6 bq bU (by simp_all) (by simp) (fun _=>rfl) (fun h=>?_)
    simp_all
    rw[if_neg al];refine .hF g xs w h1 h2 h3 (by grind) xb ?_ fun q bY=>?_
    simp_all
    grind[aiR,mem_map_of_mem]
theorem oA.Gn(h:oA l c)(aU:0<c.bz)(aD:l.bj=0)(aB:c.bj=0):(hj c.bz l c.dB c.cA aR).1=true\/c.step.1=true\/c.eB.length=c.fQ\/c.cw=true:=by
 have key:c.cw=true\/c.cw=false:=by simp_all
 rcases key with aO|aO
 simp_all
 have aGr:∀s r,c.cA=s::r->(hj c.bz l c.dB c.cA aR).1=true:=by simp_all[hj]
 have mx:c.cA=[]->l.ee≠-2->c.dB.length≠c.bz->(hj c.bz l c.dB c.cA aR).1=true:=by
  intro ak h1 h2;unfold hj
  grind
 have sb:∀p r,c.dB=p::r->c.cA=[]->(c.al=none\/∃xs w,c.al=some (xs,w)/\w≠c.aS.aN.length)->c.eB.length≠c.fQ->c.step.1=true:=by
  intro p r bn ak hh bM;unfold eg.step
  grind
 by_cases bM:c.eB.length=c.fQ;omega;cases h with
 | head h1 h2 h3 aG a6 bq bU=>grind
 | mZ bs h1 h2 h3 aG a6 bq bU=>simp_all
 | iX h1 h2 h3 aG a6 bq bU=>simp_all
 | good g h1 h2 aG a6 bq bU c2=>simp_all
 | hF g xs w h1 h2 h3 aG a6 bq bU=>simp_all
 | on g xs w k D h1 h2 h3 aG a6 bq bU c2 fe gH i6=>
  by_cases aM:w=c.aS.aN.length;right;left;unfold eg.step;rw[if_neg (by simp_all)];simp only[h3];rw[if_pos aM];unfold eg.lH
  grind
  cases hain:c.dB with
  | nil=>
   left;have ah:k=w:=by
    rw[hain]at c2;have:=congrArg List.length c2
    grind[Jg]
   have aJ:=mx bq (by simp_all[mz]) (by grind)
   simp_all
  | cons p r=>simp_all
end J
