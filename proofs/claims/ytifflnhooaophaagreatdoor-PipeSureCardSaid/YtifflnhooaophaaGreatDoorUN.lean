/- texts of the nF, e5 behind the l0 -/
import Derived.Test.YtifflnhooaophaaGreatDoorUM
set_option linter.unusedVariables false
set_option linter.unusedSimpArgs false
set_option linter.unusedSectionVars false
set_option maxHeartbeats 8000000
set_option maxRecDepth 100000
open List Nat
namespace J
open Go Go.Ab
variable[cr:bW]
variable{H:ar}{ae bX S F X G:List (Nat×ay)}{ab:VH}{v w fv:Value}{bu:List Value}{r n f j N b8 bU cd:Nat}{s:fM}{m:bn}{L:kV}{bI:jX}
structure z8 where
 key:List Int
 cE:List UInt8
 vR:Int
 gb:Int
 EC:Int
 azX:Int
 dN:Int
structure ED where
 iZ:Int
 aC:Int
 cz:List UInt8
 ck:Nat
def mG(c:z8)(kv:Value):List Value:=[kv,bl c.cE,int c.vR,int c.gb,int c.EC,int c.azX,int c.dN]
def nD(j:ED):List Value:=[int j.iZ,int j.aC,bl j.cz,bQ .u64 j.ck]
def w6(c:z8)(j:ED):ff:=⟨j.cz,(max 0 (min c.vR 100)).toNat,none,-1,0⟩
def SS(c:z8)(j:ED)(s:fM)(m:bn)(bI:jX):dG:=
 {l:=w6 c j
  c:={key:=c.key,t:=⟨c.cE,j.ck,64*(m.size (s.part j.aC):Int)⟩,jA:=[],eS:=[],iS:=[],bU:=fi c.gb,jO:=fi c.gb,aI:=cT,aw:=none,dK:=false,bA:=0}
  w:={s:=s,cK:=s.gz,dc:=j.aC,q:=[],aI:=cT,dv:=0,gi:=[],wr:=0,dL:=0,bA:=0,m:=m}
  bI:=bI
  d:=⟨0,max 1 (min c.EC 1000000),[0,0,0]⟩
  st:=1
  iT:=0}
theorem azY(b8 t:Nat):(c9 P 157).f [(0,ai b8 0),(1,bQ .u64 t),(9,int 1)]=some (agg [ai b8 0,bQ .u64 t,.pointer none,.pointer none,.pointer none,.pointer none,.pointer none,.pointer none,.pointer none,int 1,int 0]):=by rfl
theorem agc(l:List UInt8)(f:Nat)(r:Int):(c9 P 94).f [(0,bl l),(1,bQ .u64 f),(2,int r)]=some (agg (qq ⟨l,f,r⟩)):=by rfl
theorem azZ(bU r1 r2:Nat)(l:List UInt8)(t:Int):(c9 P 244).f [(0,ai bU 0),(1,bl l),(2,int t),(3,ai r1 0),(4,ai r2 0),(6,int (-1))]=some (agg [ai bU 0,bl l,int t,ai r1 0,ai r2 0,.pointer none,int (-1),int 0]):=by rfl
theorem az0{r1 r2:Nat}{c:z8}{bR:ED}(hO:aj H ae)(ag:∀aa c7,aj aa (ae++[(c7,⟨gv bU r1 r2 (w6 c bR) (.pointer none),true⟩)])->ab (ai c7 0) aa):az P 80 [ai bU 0,bl bR.cz,int c.vR,ai r1 0,ai r2 0] H ab:=by apply apD;unfold Zb;refine bV vr (bV zh (ah (azZ _ _ _ _ _) (c4 hO ?_)));intro c7 H hO;refine ag H c7 ?_;unfold gv w6;simp only;rw[Int.toNat_of_nonneg (by omega)];exact hO
theorem agd{c:z8}{kv:Value}(h:b3 S kv c.key):(mG c kv).all fE=true:=by show(fE kv&&_)=true;rw[b3.fD h];rfl
theorem az1{c:z8}{kv:Value}(h:b3 S kv c.key):(mG c kv).all eA=true:=by show(eA kv&&_)=true;rw[b3.afX h];rfl
theorem az2{c:z8}{bR:ED}{kv:Value}(vq:b3 S kv c.key)(Fx:cl c.key)(nR:c.key.length<=1000000)(pv:c.cE.length<=1000000)(CL:bR.cz.length<=1000000)(hg:s.gz<1000)(aw:s.b6)(hm:nU m)(pW:kp L m)(sR:m.hN N)(fj:m.size ((s.jI bR.iZ bR.aC).2.2.part bR.aC)<=100000)(rP:pU S cd fv bI)(Ko:bI.dF<=N)
  (hO:aj H (((S++F)++((bU,⟨fQ cd fv bI.dF,true⟩)::du L m))++[(b8,⟨fp s L.cG,true⟩)]))
  (ey:(s.jI bR.iZ bR.aC).2.1≠0->∀aa,aj aa (((S++F)++((bU,⟨fQ cd fv bI.dF,true⟩)::du L m))++[(b8,⟨fp (s.jI bR.iZ bR.aC).2.2 L.cG,true⟩)])->ab (.tuple [.pointer none,int (s.jI bR.iZ bR.aC).2.1].toArray) aa)
  (pd:(s.jI bR.iZ bR.aC).2.1=0->∀aa q X,q.bU=bU->q.cd=cd->q.b8=b8->q.L=L->c8 aa (S++X) F q (SS c bR (s.jI bR.iZ bR.aC).2.2 m bI) N->ab (.tuple [ai q.ew 0,int 0].toArray) aa):
  az P 27 [agg (mG c kv),ai bU 0,ai b8 0,agg (nD bR)] H ab:=by
 apply aoN;unfold Yi;obtain⟨rp,ek,mY,rfl⟩:=vq.kz;refine c4 hO ?_;intro t4 H hO;refine c4 hO ?_;intro e9 H hO;have er:∃G,G=(S++F)++((bU,(⟨fQ cd fv bI.dF,true⟩:ay))::du L m):=⟨_,rfl⟩;obtain⟨G,er⟩:=er;rw[<- er]at ey hO
 replace hO:aj H ((G++[(b8,⟨fp s L.cG,true⟩)])++[(t4,⟨mG c (.slice rp ek mY),true⟩),(e9,⟨nD bR,true⟩)]):=hO.e4 (gI fun p=>by
  show List.countP p (((G++[(b8,(⟨fp s L.cG,true⟩:ay))])++[(t4,⟨mG c (.slice rp ek mY),true⟩)])++[(e9,⟨nD bR,true⟩)])=_
  simp_all)
 refine ah b0 (aP hO ((G++[(b8,(⟨fp s L.cG,true⟩:ay))]).length+1) (aA rfl) (v:=int bR.iZ) rfl (ah b0 (aP hO ((G++[(b8,(⟨fp s L.cG,true⟩:ay))]).length+1) (aA rfl) (v:=int bR.aC) rfl (ays hg hO ?_))));intro H hO;refine ah jT (ah jU (ah ik (bz (fun h=>?_) (fun h=>?_))));exact ey h H hO.left;have aN:(s.jI bR.iZ bR.aC).2.1=0:=by omega
 have x3:(s.jI bR.iZ bR.aC).1=(s.jI bR.iZ bR.aC).2.2.gz/\(s.jI bR.iZ bR.aC).2.2.b6:=by
  unfold fM.jI at aN⊢;split
  simp_all
  rename_i a6;rw[if_neg a6]at aN;split
  simp_all
  exact⟨rfl,⟨by simp_all,aw.p⟩⟩
 have pd:=pd aN;generalize (s.jI bR.iZ bR.aC).1=ng at*;generalize (s.jI bR.iZ bR.aC).2.2=cn at*;obtain⟨x3,vg⟩:=x3;subst x3;refine ah (azY _ _) (c4 hO ?_);intro ew H hO
 replace hO:aj H (G++[(b8,⟨fp cn L.cG,true⟩),(t4,⟨mG c (.slice rp ek mY),true⟩),(e9,⟨nD bR,true⟩),(ew,⟨[ai b8 0,bQ .u64 cn.gz,.pointer none,.pointer none,.pointer none,.pointer none,.pointer none,.pointer none,.pointer none,int 1,int 0],true⟩)]):=hO.e4 (gI fun p=>by
  show List.countP p (((G++[(b8,(⟨fp cn L.cG,true⟩:ay))])++[(t4,⟨mG c (.slice rp ek mY),true⟩),(e9,⟨nD bR,true⟩)])++[(ew,⟨[ai b8 0,bQ .u64 cn.gz,.pointer none,.pointer none,.pointer none,.pointer none,.pointer none,.pointer none,.pointer none,int 1,int 0],true⟩)])=_
  simp_all)
 have LZ:=agd (c:=c) vq;refine ah b0 (aP hO (G.length+1) (aA rfl) (v:=int c.gb) rfl ?_);have nP:=hO;refine awp hO ?_;intro H kL gR oG hA hO;refine ah b0 (aP hO (G.length+1) (aA rfl) (v:=int c.gb) rfl (⟨gu nP (G.length+1) (aA rfl) hO (G.length+1) (aA rfl) LZ,?_⟩));have eh:=hO;refine aeV hO ?_;intro H kM eB ph dP hO;refine ah b0 (aP hO (G.length+1) (aA rfl) (v:=int c.gb) rfl (⟨gu eh (G.length+1) (aA rfl) hO (G.length+1) (aA rfl) LZ,gu nP (G.length+1) (aA rfl) eh (G.length+1) (aA rfl) LZ,?_⟩));refine aeV hO ?_;intro H kN cV nW j1 hO
 replace hO:aj H (G++[(b8,⟨fp cn L.cG,true⟩),(t4,⟨mG c (.slice rp ek mY),true⟩),(e9,⟨nD bR,true⟩),(ew,⟨[ai b8 0,bQ .u64 cn.gz,.pointer none,.pointer none,.pointer none,.pointer none,.pointer none,.pointer none,.pointer none,int 1,int 0],true⟩),(kL,⟨oG,true⟩),(gR,⟨cY kL (fi c.gb) 2 0 0,true⟩),(kM,⟨ph,true⟩),(eB,⟨cY kM (fi c.gb) 1 0 0,true⟩),(kN,⟨nW,true⟩),(cV,⟨cY kN (fi c.gb) 1 0 0,true⟩)]):=hO
 refine aU (fm hO (G.length+3) (aA rfl) rfl (show 2<11 by omega) (bu:=[ai b8 0,bQ .u64 cn.gz,ai gR 0,.pointer none,.pointer none,.pointer none,.pointer none,.pointer none,.pointer none,int 1,int 0]) rfl ?_);intro H hO;rw[Go.Ab.cb]at hO;refine aU (fm hO (G.length+3) (aA rfl) rfl (show 3<11 by omega) (bu:=[ai b8 0,bQ .u64 cn.gz,ai gR 0,ai eB 0,.pointer none,.pointer none,.pointer none,.pointer none,.pointer none,int 1,int 0]) rfl ?_);intro H hO;rw[Go.Ab.cb]at hO;refine aU (fm hO (G.length+3) (aA rfl) rfl (show 4<11 by omega) (bu:=[ai b8 0,bQ .u64 cn.gz,ai gR 0,ai eB 0,ai cV 0,.pointer none,.pointer none,.pointer none,.pointer none,int 1,int 0]) rfl ?_);intro H hO;rw[Go.Ab.cb]at hO
 replace hO:aj H (G++[(b8,⟨fp cn L.cG,true⟩),(t4,⟨mG c (.slice rp ek mY),true⟩),(e9,⟨nD bR,true⟩),(ew,⟨[ai b8 0,bQ .u64 cn.gz,ai gR 0,ai eB 0,ai cV 0,.pointer none,.pointer none,.pointer none,.pointer none,int 1,int 0],true⟩),(kL,⟨oG,true⟩),(gR,⟨cY kL (fi c.gb) 2 0 0,true⟩),(kM,⟨ph,true⟩),(eB,⟨cY kM (fi c.gb) 1 0 0,true⟩),(kN,⟨nW,true⟩),(cV,⟨cY kN (fi c.gb) 1 0 0,true⟩)]):=hO
 refine ah b0 (aP hO (G.length+1) (aA rfl) (v:=bl c.cE) rfl (ah b0 (aP hO (G.length+2) (aA rfl) (v:=bQ .u64 bR.ck) rfl (ah b0 (aP hO (G.length+2) (aA rfl) (v:=int bR.aC) rfl ?_)))));have eh:aj H (((S++F)++((bU,(⟨fQ cd fv bI.dF,true⟩:ay))::[(b8,⟨fp cn L.cG,true⟩),(t4,⟨mG c (.slice rp ek mY),true⟩),(e9,⟨nD bR,true⟩),(ew,⟨[ai b8 0,bQ .u64 cn.gz,ai gR 0,ai eB 0,ai cV 0,.pointer none,.pointer none,.pointer none,.pointer none,int 1,int 0],true⟩),(kL,⟨oG,true⟩),(gR,⟨cY kL (fi c.gb) 2 0 0,true⟩),(kM,⟨ph,true⟩),(eB,⟨cY kM (fi c.gb) 1 0 0,true⟩),(kN,⟨nW,true⟩),(cV,⟨cY kN (fi c.gb) 1 0 0,true⟩)]))++du L m):=by rw[er]at hO;exact hO.e4 (gI fun p=>by simp only[countP_append,countP_cons,countP_nil];omega)
 have i1:((S++F)++((bU,(⟨fQ cd fv bI.dF,true⟩:ay))::[(b8,⟨fp cn L.cG,true⟩),(t4,⟨mG c (.slice rp ek mY),true⟩),(e9,⟨nD bR,true⟩),(ew,⟨[ai b8 0,bQ .u64 cn.gz,ai gR 0,ai eB 0,ai cV 0,.pointer none,.pointer none,.pointer none,.pointer none,int 1,int 0],true⟩),(kL,⟨oG,true⟩),(gR,⟨cY kL (fi c.gb) 2 0 0,true⟩),(kM,⟨ph,true⟩),(eB,⟨cY kM (fi c.gb) 1 0 0,true⟩),(kN,⟨nW,true⟩),(cV,⟨cY kN (fi c.gb) 1 0 0,true⟩)]))[(S++F).length+1]?=some (b8,⟨fp cn L.cG,true⟩):=aA rfl;refine R6 eh i1 ?_;intro cB de
 replace de:aj cB (G++[(b8,⟨fp cn L.cG,true⟩),(t4,⟨mG c (.slice rp ek mY),true⟩),(e9,⟨nD bR,true⟩),(ew,⟨[ai b8 0,bQ .u64 cn.gz,ai gR 0,ai eB 0,ai cV 0,.pointer none,.pointer none,.pointer none,.pointer none,int 1,int 0],true⟩),(kL,⟨oG,true⟩),(gR,⟨cY kL (fi c.gb) 2 0 0,true⟩),(kM,⟨ph,true⟩),(eB,⟨cY kM (fi c.gb) 1 0 0,true⟩),(kN,⟨nW,true⟩),(cV,⟨cY kN (fi c.gb) 1 0 0,true⟩)]):=by rw[er];exact de.e4 (gI fun p=>by simp only[countP_append,countP_cons,countP_nil];omega)
 refine⟨gu hO (G.length+2) (aA rfl) de (G.length+2) (aA rfl) rfl,gu hO (G.length+1) (aA rfl) de (G.length+1) (aA rfl) LZ,?_⟩;rename_i br;refine ah (v:=int (64*(m.size (cn.part bR.aC):Int))) (by grind[xN]) (ah (agc _ _ _) (c4 de ?_));intro mH H hO;refine e7 hO (_+0) (aA rfl) (by rfl) rfl rfl ?_;intro H hO
 replace hO:=hO.cb
 replace hO:aj H ((G++[(b8,⟨fp cn L.cG,true⟩),(t4,⟨mG c (.slice rp ek mY),true⟩),(e9,⟨nD bR,true⟩),(ew,⟨[ai b8 0,bQ .u64 cn.gz,ai gR 0,ai eB 0,ai cV 0,.pointer none,.pointer none,.pointer none,.pointer none,int 1,int 0],true⟩),(kL,⟨oG,true⟩),(gR,⟨cY kL (fi c.gb) 2 0 0,true⟩),(kM,⟨ph,true⟩),(eB,⟨cY kM (fi c.gb) 1 0 0,true⟩),(kN,⟨nW,true⟩),(cV,⟨cY kN (fi c.gb) 1 0 0,true⟩)])++[(mH,⟨qq ⟨c.cE,bR.ck,64*(m.size (cn.part bR.aC):Int)⟩,true⟩)]):=hO
 rw[append_assoc]at hO;refine ah b0 (aP hO (G.length+2) (aA rfl) (v:=bl bR.cz) rfl (ah b0 (aP hO (G.length+1) (aA rfl) (v:=int c.vR) rfl (aU (aP hO (G.length+3) (aA rfl) (v:=ai gR 0) rfl (aU (aP hO (G.length+3) (aA rfl) (v:=ai eB 0) rfl (az0 hO ?_))))))));intro H c7 hO;rw[append_assoc]at hO;refine aU (fm hO (G.length+3) (aA rfl) rfl (show 5<11 by omega) (bu:=[ai b8 0,bQ .u64 cn.gz,ai gR 0,ai eB 0,ai cV 0,ai c7 0,.pointer none,.pointer none,.pointer none,int 1,int 0]) rfl ?_);intro H hO;rw[Go.Ab.cb]at hO
 replace hO:aj H (G++[(b8,⟨fp cn L.cG,true⟩),(t4,⟨mG c (.slice rp ek mY),true⟩),(e9,⟨nD bR,true⟩),(ew,⟨[ai b8 0,bQ .u64 cn.gz,ai gR 0,ai eB 0,ai cV 0,ai c7 0,.pointer none,.pointer none,.pointer none,int 1,int 0],true⟩),(kL,⟨oG,true⟩),(gR,⟨cY kL (fi c.gb) 2 0 0,true⟩),(kM,⟨ph,true⟩),(eB,⟨cY kM (fi c.gb) 1 0 0,true⟩),(kN,⟨nW,true⟩),(cV,⟨cY kN (fi c.gb) 1 0 0,true⟩),(mH,⟨qq ⟨c.cE,bR.ck,64*(m.size (cn.part bR.aC):Int)⟩,true⟩),(c7,⟨gv bU gR eB (w6 c bR) (.pointer none),true⟩)]):=hO
 refine ah b0 (aP hO (G.length+1) (aA rfl) (v:=.slice rp ek mY) rfl (fs hO (G.length+10) (aA rfl) (n:=3) rfl (by omega) (aU (aP hO (G.length+3) (aA rfl) (v:=ai gR 0) rfl (aU (aP hO (G.length+3) (aA rfl) (v:=ai eB 0) rfl (aU (aP hO (G.length+3) (aA rfl) (v:=ai cV 0) rfl (aw1 (key:=c.key) (t:=⟨c.cE,bR.ck,64*(m.size (cn.part bR.aC):Int)⟩) hO (by rw[er];exact vq.app.app.app) nR ?_)))))))));intro H oI yE bx hO Lu
 replace hO:aj H ((G++bB oI yE)++[(b8,⟨fp cn L.cG,true⟩),(t4,⟨mG c (.slice rp ek mY),true⟩),(e9,⟨nD bR,true⟩),(ew,⟨[ai b8 0,bQ .u64 cn.gz,ai gR 0,ai eB 0,ai cV 0,ai c7 0,.pointer none,.pointer none,.pointer none,int 1,int 0],true⟩),(kL,⟨oG,true⟩),(gR,⟨cY kL (fi c.gb) 2 0 0,true⟩),(kM,⟨ph,true⟩),(eB,⟨cY kM (fi c.gb) 1 0 0,true⟩),(kN,⟨nW,true⟩),(cV,⟨cY kN (fi c.gb) 1 0 0,true⟩),(mH,⟨qq ⟨c.cE,bR.ck,64*(m.size (cn.part bR.aC):Int)⟩,true⟩),(c7,⟨gv bU gR eB (w6 c bR) (.pointer none),true⟩),(bx,⟨eU oI ⟨c.cE,bR.ck,64*(m.size (cn.part bR.aC):Int)⟩ gR eB cV cT bq (.pointer none) false 0,true⟩)]):=hO.e4 (gI fun p=>by simp only[countP_append,countP_cons,countP_nil];omega)
 generalize az3:G++bB oI yE=oJ at*;refine aU (fm hO (oJ.length+3) (aA rfl) rfl (show 6<11 by omega) (bu:=[ai b8 0,bQ .u64 cn.gz,ai gR 0,ai eB 0,ai cV 0,ai c7 0,ai bx 0,.pointer none,.pointer none,int 1,int 0]) rfl ?_);intro H hO;rw[Go.Ab.cb]at hO
 replace hO:aj H (oJ++[(b8,⟨fp cn L.cG,true⟩),(t4,⟨mG c (.slice rp ek mY),true⟩),(e9,⟨nD bR,true⟩),(ew,⟨[ai b8 0,bQ .u64 cn.gz,ai gR 0,ai eB 0,ai cV 0,ai c7 0,ai bx 0,.pointer none,.pointer none,int 1,int 0],true⟩),(kL,⟨oG,true⟩),(gR,⟨cY kL (fi c.gb) 2 0 0,true⟩),(kM,⟨ph,true⟩),(eB,⟨cY kM (fi c.gb) 1 0 0,true⟩),(kN,⟨nW,true⟩),(cV,⟨cY kN (fi c.gb) 1 0 0,true⟩),(mH,⟨qq ⟨c.cE,bR.ck,64*(m.size (cn.part bR.aC):Int)⟩,true⟩),(c7,⟨gv bU gR eB (w6 c bR) (.pointer none),true⟩),(bx,⟨eU oI ⟨c.cE,bR.ck,64*(m.size (cn.part bR.aC):Int)⟩ gR eB cV cT bq (.pointer none) false 0,true⟩)]):=hO
 refine ah b0 (aP hO (oJ.length+2) (aA rfl) (v:=int bR.aC) rfl (aU (aP hO (oJ.length+3) (aA rfl) (v:=ai cV 0) rfl (ayw hO ?_))));intro H qx hO;rw[append_assoc]at hO;refine aU (fm hO (oJ.length+3) (aA rfl) rfl (show 7<11 by omega) (bu:=[ai b8 0,bQ .u64 cn.gz,ai gR 0,ai eB 0,ai cV 0,ai c7 0,ai bx 0,ai qx 0,.pointer none,int 1,int 0]) rfl ?_);intro H hO;rw[Go.Ab.cb]at hO
 replace hO:aj H (oJ++[(b8,⟨fp cn L.cG,true⟩),(t4,⟨mG c (.slice rp ek mY),true⟩),(e9,⟨nD bR,true⟩),(ew,⟨[ai b8 0,bQ .u64 cn.gz,ai gR 0,ai eB 0,ai cV 0,ai c7 0,ai bx 0,ai qx 0,.pointer none,int 1,int 0],true⟩),(kL,⟨oG,true⟩),(gR,⟨cY kL (fi c.gb) 2 0 0,true⟩),(kM,⟨ph,true⟩),(eB,⟨cY kM (fi c.gb) 1 0 0,true⟩),(kN,⟨nW,true⟩),(cV,⟨cY kN (fi c.gb) 1 0 0,true⟩),(mH,⟨qq ⟨c.cE,bR.ck,64*(m.size (cn.part bR.aC):Int)⟩,true⟩),(c7,⟨gv bU gR eB (w6 c bR) (.pointer none),true⟩),(bx,⟨eU oI ⟨c.cE,bR.ck,64*(m.size (cn.part bR.aC):Int)⟩ gR eB cV cT bq (.pointer none) false 0,true⟩),(qx,⟨iq b8 cn.gz bR.aC cV cT bq 0 bq 0 0 0,true⟩)]):=hO
 refine ah b0 (aP hO (oJ.length+1) (aA rfl) (v:=int c.EC) rfl (ay0 (l4:=3) hO ?_));intro eC cD H hO;rw[append_assoc]at hO;refine aU (fm hO (oJ.length+3) (aA rfl) rfl (show 8<11 by omega) (bu:=[ai b8 0,bQ .u64 cn.gz,ai gR 0,ai eB 0,ai cV 0,ai c7 0,ai bx 0,ai qx 0,ai cD 0,int 1,int 0]) rfl ?_);intro H hO;rw[Go.Ab.cb]at hO
 replace hO:aj H (oJ++[(b8,⟨fp cn L.cG,true⟩),(t4,⟨mG c (.slice rp ek mY),true⟩),(e9,⟨nD bR,true⟩),(ew,⟨[ai b8 0,bQ .u64 cn.gz,ai gR 0,ai eB 0,ai cV 0,ai c7 0,ai bx 0,ai qx 0,ai cD 0,int 1,int 0],true⟩),(kL,⟨oG,true⟩),(gR,⟨cY kL (fi c.gb) 2 0 0,true⟩),(kM,⟨ph,true⟩),(eB,⟨cY kM (fi c.gb) 1 0 0,true⟩),(kN,⟨nW,true⟩),(cV,⟨cY kN (fi c.gb) 1 0 0,true⟩),(mH,⟨qq ⟨c.cE,bR.ck,64*(m.size (cn.part bR.aC):Int)⟩,true⟩),(c7,⟨gv bU gR eB (w6 c bR) (.pointer none),true⟩),(bx,⟨eU oI ⟨c.cE,bR.ck,64*(m.size (cn.part bR.aC):Int)⟩ gR eB cV cT bq (.pointer none) false 0,true⟩),(qx,⟨iq b8 cn.gz bR.aC cV cT bq 0 bq 0 0 0,true⟩),(eC,mE [0,0,0]),(cD,mD 0 (max 1 (min c.EC 1000000)) eC 3)]):=hO
 have aDW:iF 2 (fi c.gb) 0 [] oG:=hA;refine pd H ⟨⟨kL,gR,fi c.gb,0,oG,[]⟩,⟨kM,eB,fi c.gb,0,ph,[]⟩,⟨kN,cV,fi c.gb,0,nW,[]⟩,bx,qx,b8,c7,bU,cd,cD,eC,ew,oI,.pointer none,fv,bq,.pointer none,bq,bq,[],L⟩ (bB oI yE) rfl rfl rfl rfl ⟨?_,_,fun _=>rfl,?_⟩;have ie:b3 (S++bB oI yE) oI c.key:=Lu.hF.app';have age:pS (S++bB oI yE) ⟨kL,gR,fi c.gb,0,oG,[]⟩ []:=⟨hA,.nil,by simp⟩;have agf:pT (S++bB oI yE) ⟨kM,eB,fi c.gb,0,ph,[]⟩ []:=⟨dP,.nil⟩;have agh:pT (S++bB oI yE) ⟨kN,cV,fi c.gb,0,nW,[]⟩ []:=⟨j1,.nil⟩;refine⟨BU,.inl ⟨rfl,rfl⟩,.inl rfl,rfl,BU,vg,hm,pW,sR,rP.app,Ko,rfl,?_,by show(0:Int)<=1099511627776;omega,fun _=>⟨⟨ie,Fx,nR,pv,age,agf,agh,rfl,rfl,BU,.inl ⟨rfl,rfl⟩,.yv⟩,⟨age,agf,rfl,rP.app,⟨CL,by show(max 0 (min c.vR 100)).toNat<=100;omega,by show(-2:Int)<=-1/\(-1:Int)<=1000;omega,fun _ _ h=>(by cases h),fun _=>.inl rfl⟩⟩,⟨agh,BU,.inl ⟨rfl,rfl⟩,?_,(by intro x al;cases al),vg,hm,pW,zero_le _,zero_le _⟩,rfl,Int.le_refl 0⟩⟩;intro y a8;have a8:y∈ [(0:Int),0,0]:=a8;simp at a8;subst a8;exact⟨Int.le_refl 0,Int.le_refl 0⟩;exact .inl ⟨rfl,rfl⟩;subst az3;rw[er]at hO;refine(hO.sub (bX:=((((S++F)++((bU,(⟨fQ cd fv bI.dF,true⟩:ay))::du L m))++bB oI yE)++[(b8,⟨fp cn L.cG,true⟩),(ew,⟨[ai b8 0,bQ .u64 cn.gz,ai gR 0,ai eB 0,ai cV 0,ai c7 0,ai bx 0,ai qx 0,ai cD 0,int 1,int 0],true⟩),(kL,⟨oG,true⟩),(gR,⟨cY kL (fi c.gb) 2 0 0,true⟩),(kM,⟨ph,true⟩),(eB,⟨cY kM (fi c.gb) 1 0 0,true⟩),(kN,⟨nW,true⟩),(cV,⟨cY kN (fi c.gb) 1 0 0,true⟩),(c7,⟨gv bU gR eB (w6 c bR) (.pointer none),true⟩),(bx,⟨eU oI ⟨c.cE,bR.ck,64*(m.size (cn.part bR.aC):Int)⟩ gR eB cV cT bq (.pointer none) false 0,true⟩),(qx,⟨iq b8 cn.gz bR.aC cV cT bq 0 bq 0 0 0,true⟩),(eC,mE [0,0,0]),(cD,mD 0 (max 1 (min c.EC 1000000)) eC 3)])) ?_).e4 (gI fun p=>?_)
 refine List.Sublist.append_left ?_ _;refine .cons_cons _ (.cons _ (.cons _ (.cons_cons _ (.cons_cons _ (.cons_cons _ (.cons_cons _ (.cons_cons _ (.cons_cons _ (.cons_cons _ (.cons _ (List.Sublist.refl _)))))))))));show _=List.countP p (((S++bB oI yE)++(F++([(kL,⟨oG,true⟩),(gR,⟨cY kL (fi c.gb) 2 0 0,true⟩),(kM,⟨ph,true⟩),(eB,⟨cY kM (fi c.gb) 1 0 0,true⟩),(kN,⟨nW,true⟩),(cV,⟨cY kN (fi c.gb) 1 0 0,true⟩),(c7,(⟨gv bU gR eB (w6 c bR) (.pointer none),true⟩:ay))]++[])))++([(bx,(⟨eU oI ⟨c.cE,bR.ck,64*(m.size (cn.part bR.aC):Int)⟩ gR eB cV cT bq (.pointer none) false 0,true⟩:ay)),(b8,⟨fp cn L.cG,true⟩),(qx,⟨iq b8 cn.gz bR.aC cV cT bq 0 bq 0 0 0,true⟩),(bU,⟨fQ cd fv bI.dF,true⟩),(cD,mD 0 (max 1 (min c.EC 1000000)) eC 3),(eC,mE [0,0,0]),(ew,⟨[ai b8 0,bQ .u64 cn.gz,ai gR 0,ai eB 0,ai cV 0,ai c7 0,ai bx 0,ai qx 0,ai cD 0,int 1,int 0],true⟩)]++du L m));simp only[countP_append,countP_cons,countP_nil];omega
end J
namespace J
open Go Go.Ab
variable[cr:bW]
section
variable{H:ar}{ae:List (Nat×ay)}{ab:VH}{w:Value}{e:Int}
variable{ba cF:Nat}{s:List Int}
theorem az4{n w:Nat}{agi:Int}(aR:n<=4096)(aM:w<=100000)(AI:max (0:Int) (min agi 100000)=w)(hO:aj H ae)(ag:∀aa ba cF,aj aa (ae++gX ba cF bq (bG.cL n w))->ab (ai ba 0) aa):az P 55 [int n,int agi] H ab:=by
 apply apc;unfold YK;refine bV vr (bV zh ?_);rw[show max (0:Int) (min (n:Int) 4096)=n by omega,ata];refine FX (k:=.i64) (eE:=.i64) hO (by omega) (by omega) ?_;intro cF H hO;refine bV vr (bV zh ?_);rw[AI];refine ah (atb n cF w) (c4 hO ?_);intro ba H hO
 repeat refine bD ?_
 refine aP hO ((ae++[(cF,(⟨fR n (kn lq),true⟩:ay))]).length+0) (aA rfl) rfl ?_
 repeat refine rO ?_
 rw[acA]at hO
 replace hO:aj H (ae++gX ba cF bq {bG.cL n w with cells:=List.replicate n lq}):=by
  have aB:aj H ((ae++[(cF,⟨jt (List.replicate n lq),true⟩)])++[(ba,⟨[aC cF 0 n 259,bq,int w,int (-1),.bool false],true⟩)]):=hO;have bk:=aB.nw;rw[append_assoc]at bk;have e:ko cF bq {bG.cL n w with cells:=List.replicate n lq}=[aC cF 0 n 259,bq,int w,int (-1),.bool false]:=by unfold ko;rw[length_replicate];rfl
  show aj H (ae++([(ba,⟨ko cF bq {bG.cL n w with cells:=List.replicate n lq},true⟩),(cF,⟨jt (List.replicate n lq),true⟩)]++[]));rw[e];exact bk
 refine apb (fun k aF aa=>∃y:Nat,y<=n/\k=n-y/\aF=[.pointer none,ai ba 0,int n,int y]/\aj aa (ae++gX ba cF bq {bG.cL n w with cells:=List.replicate y ur++List.replicate (n-y) lq})) _ _ ?_ n _ _ ⟨0,by omega,rfl,rfl,hO⟩;rintro k aF aa ⟨y,a8,rfl,rfl,hO⟩;unfold YJ
 try simp only[cu,cv]
 repeat refine bD ?_
 refine bz (fun h=>?_) (fun h=>?_);have fU:y<n:=by omega
 generalize j1:List.replicate y ur++List.replicate (n-y) lq=C at*;have aDX:C.length=n:=by grind
 have az5:∀c∈C,c.b6:=by
  intro c aD;rw[<- j1]at aD;rcases mem_append.1 aD with aD|aD
  rw[(mem_replicate.1 aD).2];exact DW;rw[(mem_replicate.1 aD).2];exact atc
 repeat refine bD ?_
 refine aP hO (ae.length+0) (aA rfl) rfl (DV hO ?_);intro cB de;refine⟨gu hO (ae.length+0) (aA rfl) de (ae.length+0) (aA rfl) rfl,?_⟩;refine DV de ?_;intro iN lo;refine⟨gu de (ae.length+0) (aA rfl) lo (ae.length+0) (aA rfl) rfl,?_⟩;refine ah (asP (s:=o6) (cn:=o6) rfl rfl) (ah (h4 (by omega) (by simp_all)) ?_);have p8:(jt C).length=n*129:=by grind[acv]
 have zL:=KG (f:=kn) (l:=C) (i:=y) (o:=0) (y:=ur) (cL:=kn ur) (fun c aD=>vD (az5 c aD)) (by omega) (by rw[vD DW];omega) (by simp_all[vD,DW]);rw[vD DW]at zL;refine o0 lo (ae.length+1) (aA rfl) (show(kn ur).length=129 from vD DW) (by grind) (asE _) ?_;intro H hO
 repeat refine bD ?_
 refine⟨_,by omega,y+1,by omega,rfl,rfl,as9 (eQ:={bG.cL n w with cells:=List.replicate (y+1) ur++List.replicate (n-(y+1)) lq}) hO ?_ ?_ rfl rfl rfl rfl⟩;have bb:0+(y:Int).toNat*129=y*129+0:=by omega
 rw[bb];refine zL.trans ?_;show(C.set y ur).flatMap kn=jt (List.replicate (y+1) ur++List.replicate (n-(y+1)) lq);rw[<- j1,set_append_right _ _ (by simp),length_replicate,Nat.sub_self,show n-y=(n-(y+1))+1 by omega,replicate_succ,set_cons_zero,replicate_succ'];simp[jt]
 grind
 have lI:y=n:=by omega
 subst lI;rw[Nat.sub_self,replicate_zero,append_nil]at hO
 repeat refine Bn ?_
 exact ag _ ba cF hO
end
end J
namespace J
open Go Go.Ab
section
variable[cr:bW]
variable{H:ar}{S F:List (Nat×ay)}{v w fv:Value}{f j k:Nat}{m:bn}{e a b:Int}{gp:List Int}
structure ei where
 k4:Int
 w7:Int
 gp:List Int
 off:ir
 bj:List iY
 kg:z8
 bR:ED
def jb(w:ei)(wv ov fv kv:Value):List Value:=int w.k4::int w.w7::wv::ov::fv::(mG w.kg kv++nD w.bR)
def L0(x:Int):List Int:=x::List.replicate 63 0
theorem az6(x:Int):(c9 P 102).f [(0,.int .u8 x)]=some (ot (L0 x)):=by rfl
theorem az7{x:Int}(h:0<=x/\x<=255):cl (L0 x):=by
 intro y a8;rcases mem_cons.1 a8 with rfl|a8
 exact h
 simp_all
theorem agj(x:Int):(L0 x).length=64:=by rfl
def L1(m:bn)(x:Int):bn:=(m.fz (1+((x.toNat%2:Nat):Int)) ((x.toNat/2:Nat):Int) (L0 x)).1
def pX(m:bn)(gp:List Int):bn:=gp.foldl L1 m
theorem agk{ak:List Int}{y:Nat}(h:b3 S v ak)(a8:y<ak.length):∃(p o c j:Nat) (b:ay),v=aC p o ak.length c/\S[j]?=some (p,b)/\b.cells[o+((y:Nat):Int).toNat*1]?=some (.int .u8 ak[y]):=by
 obtain⟨p,o,c,j,b,h1,h2,aB⟩:=b3.at h a8
 grind
theorem agl{a:Int}(h:0<=a/\a<=255):hd .i64 (.int .u8 a) H=some (int a,H):=by
 show some (Value.int .i64 (iJ .i64 a),H)=_
 grind[xM]
theorem az8{t0 aW:Value}{bL:LX}{cy:LN}{eN:kV}(hv:b3 S v gp)(nj:cl gp)(aE:gp.length<=30)(hm:nU m)(pW:kp eN m)(sR:m.hN 0)(hO:aj H ((S++F)++du eN m))
  (ag:∀aa cA,eN.Eq cA->nU (pX m gp)->kp cA (pX m gp)->(pX m gp).hN 30->aj aa ((S++F)++du cA (pX m gp))->bL 0 [t0,aW,ai eN.cG 0] aa):
  eI P true 95 PL 14 [t0,aW,ai eN.cG 0,v,int gp.length,int 0] H bL cy:=by
 refine aoz (fun k aF aa=>∃(y:Nat) (cA:kV),y<=gp.length/\k=gp.length-y/\aF=[t0,aW,ai eN.cG 0,v,int gp.length,int y]/\eN.Eq cA/\nU (pX m (gp.take y))/\kp cA (pX m (gp.take y))/\(pX m (gp.take y)).hN y/\aj aa ((S++F)++du cA (pX m (gp.take y)))) _ _ ?_ gp.length _ _ ⟨0,eN,zero_le _,rfl,rfl,.gl,hm,pW,sR,hO⟩;rintro k aF H ⟨y,cA,a8,rfl,rfl,he,hm,pW,sR,hO⟩;unfold X3
 try simp only[cu,cv]
 refine ah ez (bz (fun h=>?_) (fun h=>?_));have fU:y<gp.length:=by omega
 have je:=nj gp[y] (getElem_mem fU);obtain⟨p,o,c,j,b,rfl,bh,aD⟩:=agk hv fU;refine ah (h4 (by omega) (by omega)) (aP hO j (aK (aK bh)) aD ?_);have x3:=Hp fU;have aM:pX m (gp.take (y+1))=L1 (pX m (gp.take y)) gp[y]:=by grind[pX]
 obtain⟨z,dQ⟩:∃z:Nat,gp[y]=z:=⟨gp[y].toNat,by omega⟩;unfold L1 at aM;rw[dQ]at je aM⊢;rw[Int.toNat_natCast]at aM;refine bV (agl je) (ah (uA (by decide)) ?_);have az9:z%2<2:=mod_lt _ (by decide);generalize aDY:z%2=aAa at*;refine ah (v:=int (1+(aAa:Int))) (by grind[jg]) (bV (agl je) (ah (wT (by decide) (by omega)) (ah (az6 _) ?_)));rw[<- he.m];refine acN hm.ok (agj _) (sR.mono (by omega)) hO pW ?_;intro cB yF xr de jG;refine ah (v:=int ((y+1:Nat):Int)) (by grind[jg]) (⟨_,by omega,y+1,yF,fU,rfl,rfl,he.trans xr,?_,?_,?_,?_⟩);rw[aM];exact afo (agj _) (az7 je) _ hm;rw[aM];exact jG;rw[aM];exact bn.acK sR;rw[aM];exact de;have e:y=gp.length:=by omega
 subst e;rw[take_length]at hm pW sR hO;exact ag H cA he hm pW (sR.mono aE) hO
end
end J
namespace J
open Go Go.Ab
section
variable[cr:bW]
variable{H:ar}{S F vP X R:List (Nat×ay)}{ab:VH}{v w fv:Value}{ao bu:List Value}{r f j N b8 bU ft o:Nat}{s:fM}{m:bn}{L:kV}{a b:Int}{gp:List Int}{q:hK}{p:dG}
theorem c8.sub(h:c8 H S F q p N)(aw:vP.Sublist F):c8 H S vP q p N:=by obtain⟨aQ,R,U,hO⟩:=h;refine⟨aQ,R,U,hO.sub ?_⟩;exact List.Sublist.append_right (List.Sublist.append_left (List.Sublist.append_right aw R) S) _
theorem c8.cw(h:c8 H S (F++[(ft,⟨ao,true⟩)]) q p N)(hv:ao[o]?=some v)(ag:ab v H):af (ax (ai ft o) H) ab:=by obtain⟨aQ,R,U,hO⟩:=h;exact aP hO (S.length+(F.length+0)) (aK (aA (aK (aA rfl)))) hv ag
theorem c8.st(h:c8 H S (F++[(ft,⟨ao,true⟩)]) q p N)(h1:eA v=true)(aR:o<ao.length)(aD:ao.set o v=bu)(ag:∀aa,c8 aa S (F++[(ft,⟨bu,true⟩)]) q p N->ab undef aa):af (bm 1 (ai ft o) v H) ab:=by obtain⟨aQ,R,U,hO⟩:=h;have eh:aj H (((S++(F++R))++k2 q p)++[(ft,⟨ao,true⟩)]):=hO.e4 (gI fun p=>by grind);refine tv eh h1 aR aD ?_;intro aa im;exact ag aa ⟨aQ,R,U,im.e4 (gI fun p=>by grind)⟩
def mI(q:hK):List Value:=[ai q.L.cG 0,ai q.bU 0,ai q.b8 0,ai q.ew 0,int 0]
theorem aAb(a b c:Nat):(c9 P 42).f [(0,ai a 0),(1,ai b 0),(2,ai c 0)]=some (agg [ai a 0,ai b 0,ai c 0,.pointer none,int 0]):=by rfl
theorem aAc:(c9 P 108).f [(0,(.int .i64 1)),(1,(.int .i64 2))]=some (agg [int 1,int 2]):=by rfl
theorem aAd(a b c:Int)(H:ar):(eg P 48 3).f [(0,int a),(1,int b),(2,int c)] H=some (aC H.next 0 3 3,H.push [int a,int b,int c]):=by rfl
theorem aAe(p:Nat):(au P .eql 37 true).f (ai p 0) (.pointer none)=some (.bool false):=by rfl
def pY(w:ei):bn:={(pX ⟨bG.cL 60 ((max 0 (min w.w7 100000)).toNat:Int),mb 0 [1,w.k4.toNat,w.k4.toNat],0,[]⟩ w.gp).hj.1 with bf:=[]}
def mh:fM:=⟨0,0,0,0,1,2⟩
structure pZ (S:List (Nat×ay)) (w:ei) (wv ov fv kv:Value):Prop where
 gp:b3 S wv w.gp
 zW:cl w.gp
 off:nX S ov w.off
 bj:gZ S fv w.bj
 B8:∀f∈w.bj,f.v<256
 key:b3 S kv w.kg.key
 zT:cl w.kg.key
structure ei.jP (w:ei):Prop where
 s:1<=w.k4/\w.k4<=20
 gp:w.gp.length<=30
 off:w.off.length<=5
 bj:w.bj.length<=60
 key:w.kg.key.length<=200
 cE:w.kg.cE.length<=200
 cz:w.bR.cz.length<=200
 Fh:∀o∈w.off,o.1.length<=200/\o.2.length<=4000
theorem pZ.app{w:ei}{wv ov fv kv:Value}(h:pZ S w wv ov fv kv):pZ (S++X) w wv ov fv kv:=⟨h.gp.app,h.zW,h.off.app,h.bj.app,h.B8,h.key.app,h.zT⟩
theorem agm{w:ei}{wv ov fv kv:Value}(h:pZ S w wv ov fv kv):(jb w wv ov fv kv).all fE=true:=by
 obtain⟨aJ,h1,_⟩:=h.off;have bC:fE ov=true:=by rcases h1 with⟨rfl,_⟩|⟨p,c,j,w,rfl,_⟩<;>rfl
 show(true&&(true&&(fE wv&&(fE ov&&(fE fv&&(mG w.kg kv++nD w.bR).all fE)))))=true;rw[b3.fD h.gp,bC,h.bj.q9,all_append,agd h.key];rfl
theorem aAf(m:bn):∀(gp:List Int),(pX m gp).hq=m.hq:=by
 intro gp;induction gp generalizing m with
 | nil=>rfl
 | cons x r a7=>simp_all[pX,L1,bn.atm]
theorem SU(w:ei):(pY w).hq=[(0,1),(1,w.k4.toNat),(1+w.k4.toNat,w.k4.toNat)]:=by
 show(pX _ w.gp).hj.1.hq=_;show(pX _ w.gp).hq=_
 simp_all[aAf,mb]
end
end J
namespace J
open Go Go.Ab
variable{H:ar}{ae bX S F X:List (Nat×ay)}{ab:VH}{v:Value}{ao bu:List Value}{n N b8 bU cd ft o:Nat}{s:fM}{m:bn}{bI:jX}{b:Int}{gp:List Int}{q:hK}{p:dG}{w:ei}{wv ov fv kv:Value}
def r4(w:ei):dG:=SS w.kg w.bR (mh.jI w.bR.iZ w.bR.aC).2.2 (pY w) ⟨w0 w.off,w.bj,0⟩
theorem aAg{zS:Nat}{w7:Int}{ct:List (Nat×Nat)}:bn.tu ⟨bG.cL zS w7,ct,0,[]⟩:=by intro c aD x al;have:c=ur:=eq_of_mem_replicate aD;subst this;have:x=255:=eq_of_mem_replicate al;omega
theorem aAh{j6:Int}(h:w.k4<=20):(pY w).size j6<=20:=by
 unfold bn.size;split;unfold bn.rT;rw[SU]
 grind
 omega
theorem SV[cr:bW](hf:w.jP)(aM:pZ S w wv ov fv kv)(hO:aj H (S++F))
  (ey:(mh.jI w.bR.iZ w.bR.aC).2.1≠0->∀(cA:bW) aa ft cG bU b8 ae,@aj cA aa (ae++[(ft,⟨[ai cG 0,ai bU 0,ai b8 0,.pointer none,int (mh.jI w.bR.iZ w.bR.aC).2.1],true⟩)])->ab (ai ft 0) aa)
  (pd:(mh.jI w.bR.iZ w.bR.aC).2.1=0->∀(cA:bW) aa ft q X,(∀x∈cr.l,x.1<q.cd)->(∃T,cA=iA q.cd (jN T) cr)->@c8 cA aa (S++X) (F++[(ft,⟨mI q,true⟩)]) q (r4 w) 30->ab (ai ft 0) aa):
  az P 12 [agg (jb w wv ov fv kv)] H ab:=by
 apply aoA;unfold X4;obtain⟨gM,gN,mU,lE,pE,rF,wL,f8⟩:=hf;have QM:=agm aM;obtain⟨n,aR⟩:=Int.eq_ofNat_of_zero_le (show 0<=w.k4 by omega);have aR:w.k4=(n:Int):=aR;refine c4 hO ?_;clear hO;intro aW H hO
 replace hO:aj H (S++(F++[(aW,⟨jb w wv ov fv kv,true⟩)])):=by rw[<- append_assoc];exact hO
 have L2:∀ {bX},((S++(F++[(aW,(⟨jb w wv ov fv kv,true⟩:ay))]))++bX)[S.length+(F.length+0)]?=some (aW,⟨jb w wv ov fv kv,true⟩):=aK (aA (aA rfl));refine ah b0 (aP hO (S.length+(F.length+0)) (aA (aA rfl)) (v:=int w.w7) rfl ?_);have eh:=hO;refine az4 (n:=60) (w:=(max 0 (min w.w7 100000)).toNat) (by omega) (by omega) (by omega) hO ?_;clear hO;intro H ba cF hO;refine ah b0 (aP hO _ L2 (v:=int w.k4) rfl (⟨gu eh (S.length+(F.length+0)) (aA (aA rfl)) hO _ L2 QM,?_⟩));refine ah b0 (aP hO _ L2 (v:=int w.k4) rfl (⟨gu eh (S.length+(F.length+0)) (aA (aA rfl)) hO _ L2 QM,?_⟩));clear eh;rw[aR];refine gj hO (aAd _ _ _ _) ?_;clear hO;intro pj H hO;refine att (iE:=[1,n,n]) (QB:=(S++(F++[(aW,(⟨jb w wv ov fv kv,true⟩:ay))])).length+0) (c:=3) (bG.acB (by omega) (by omega)) hO.nw (aA rfl) (by simp) (by simp) (fun x al=>by simp at al;omega) (by grind[bG.cL]) (.inl ⟨rfl,rfl,rfl⟩) ?_;clear hO;intro H cG bJ hO hv;refine ah jT (ah jU (e6 (fun aF aa=>aF=[ai aW 0,.pointer none,ai cG 0]/\aa=H) ?_ ?_));exact ah (ayx _) (et rfl (ah ik (ah mr (nr (by decide) (⟨rfl,rfl⟩)))));rintro aF aa ⟨rfl,rfl⟩
 try simp only[cu,cv]
 replace hO:aj aa ((S++(F++[(aW,⟨jb w wv ov fv kv,true⟩),(pj,⟨[int 1,int n,int n],true⟩)]))++du ⟨cG,ba,cF,bJ,bq,bq⟩ ⟨bG.cL 60 ((max 0 (min w.w7 100000)).toNat:Int),mb 0 [1,n,n],0,[]⟩):=
  hO.e4 (gI fun p=>by simp_all)
 have oc:nU ⟨bG.cL 60 ((max 0 (min w.w7 100000)).toNat:Int),mb 0 [1,n,n],0,[]⟩:=by
  refine⟨⟨bG.acB (by omega) (by omega),?_,by simp_all[Qz]⟩,aAg⟩;intro x al;have al:x∈ [(0,1),(0+1,n),(0+1+n,n)]:=al;show x.1+x.2<=(List.replicate 60 ur).length
  grind
 have aAi:∀ {bX},((S++(F++[(aW,(⟨jb w wv ov fv kv,true⟩:ay)),(pj,(⟨[int 1,int n,int n],true⟩:ay))]))++bX)[S.length+(F.length+0)]?=some (aW,⟨jb w wv ov fv kv,true⟩):=aK (aA (aA rfl));refine ah b0 (aP hO _ aAi (v:=wv) rfl (bV aM.gp.bP (az8 (eN:=⟨cG,ba,cF,bJ,bq,bq⟩) aM.gp aM.zW gN oc hv ⟨Nat.le_refl 0,Nat.le_refl 0⟩ hO ?_)));clear hO hv oc;intro H EE Cb oc hv sR hO;show cond (Nat.beq 0 0) _ _;rw[beq_refl];show az P 57 [ai cG 0] H _;rw[show cG=EE.cG from Cb.m.symm];refine acO oc.ok (sR.mono (by omega)) hO hv ?_;have Aa:=afn _ oc;have ql:=bn.acL sR;clear hO hv;intro H yF xr hO hv;rw[<- xr.m];refine acP hO hv ?_;clear hO hv;intro H hO hv;have Lf:({(pX ⟨bG.cL 60 ((max 0 (min w.w7 100000)).toNat:Int),mb 0 [1,n,n],0,[]⟩ w.gp).hj.1 with bf:=[]}:bn)=pY w:=by simp_all[pY]
 rw[Lf]at hO hv;have aAj:nU (pY w):=by rw[<- Lf];exact⟨⟨Aa.ok.d,Aa.ok.s,Aa.ok.n⟩,Aa.b⟩
 have aAk:(pY w).hN 30:=by rw[<- Lf];exact⟨ql.1,zero_le _⟩
 clear Aa ql sR oc;generalize lJ (pX ⟨bG.cL 60 ((max 0 (min w.w7 100000)).toNat:Int),mb 0 [1,n,n],0,[]⟩ w.gp).hj.1.bf=SW at hO;obtain⟨qy,SX⟩:∃qy:kV,qy={yF with fV:=bq}:=⟨_,rfl⟩;have K1:yF.cG=qy.cG:=by rw[SX]
 rw[<- SX]at hO hv;rw[K1];obtain⟨gW,agn⟩:∃gW,gW=bB yF.fV SW:=⟨_,rfl⟩;rw[<- agn]at hO;clear SX K1 Cb xr agn
 replace hO:aj H (S++(((F++[(aW,⟨jb w wv ov fv kv,true⟩),(pj,⟨[int 1,int n,int n],true⟩)])++gW)++du qy (pY w))):=
  hO.e4 (gI fun p=>by simp_all)
 refine ah b0 (aP hO (S.length+(F.length+0)) (aA (aK (aK (aA rfl)))) (v:=ov) rfl (ah b0 (aP hO (S.length+(F.length+0)) (aA (aK (aK (aA rfl)))) (v:=fv) rfl (azV (fun o bC=>by grind) (by omega) aM.off aM.bj (by omega) aM.B8 hO ?_))));clear hO;intro cA H cd bU sT X E9 hL aQ hO;refine ah aAc (ayu hO ?_);clear hO;intro H b8 hO;refine ah (aAb _ _ _) (c4 hO ?_);clear hO;intro ft H hO
 replace hO:aj H ((((((S++X)++(((F++[(aW,⟨jb w wv ov fv kv,true⟩),(pj,⟨[int 1,int n,int n],true⟩)])++gW)++du qy (pY w)))++[(bU,⟨fQ cd sT 0,true⟩)])++[(b8,⟨fp mh qy.cG,true⟩)])++[(ft,⟨[ai qy.cG 0,ai bU 0,ai b8 0,.pointer none,int 0],true⟩)])):=hO
 replace hO:aj H ((((S++X)++(((F++[(aW,⟨jb w wv ov fv kv,true⟩),(pj,⟨[int 1,int n,int n],true⟩)])++gW)++[(ft,⟨[ai qy.cG 0,ai bU 0,ai b8 0,.pointer none,int 0],true⟩)]))++((bU,⟨fQ cd sT 0,true⟩)::du qy (pY w)))++[(b8,⟨fp mh qy.cG,true⟩)]):=
  hO.e4 (gI fun p=>by simp only[countP_append,countP_cons,countP_nil];omega)
 obtain⟨qz,SY⟩:∃qz,qz=(F++[(aW,(⟨jb w wv ov fv kv,true⟩:ay)),(pj,⟨[int 1,int n,int n],true⟩)])++gW:=⟨_,rfl⟩;rw[<- SY]at hO;have nq:∀ {bX Hq},((((S++X)++(qz++[(ft,(⟨[ai qy.cG 0,ai bU 0,ai b8 0,.pointer none,int 0],true⟩:ay))]))++bX)++Hq)[(S++X).length+(qz.length+0)]?=some (ft,⟨[ai qy.cG 0,ai bU 0,ai b8 0,.pointer none,int 0],true⟩):=aK (aK (aA (aA rfl)));have EW:∀ {bX Hq aAl},((((S++X)++(qz++aAl))++bX)++Hq)[(S++X).length+(F.length+0)]?=some (aW,⟨jb w wv ov fv kv,true⟩):=by rw[SY];exact aK (aK (aA (aK (aK (aA rfl)))))
 refine e6 (fun aF aa=>aF=[ai aW 0,ai ft 0]/\aa=H) ?_ ?_;exact aU (aP hO _ nq (v:=ai bU 0) rfl (ah (aAe _) (et rfl (aU (aP hO _ nq (v:=ai b8 0) rfl (ah (ayy _) (ah mr (et rfl (⟨rfl,rfl⟩)))))))));rintro aF aa ⟨rfl,rfl⟩
 try simp only[cu,cv]
 refine ah b0 (hG (ao:=mG w.kg kv) hO _ EW rfl rfl (by omega) (aU (aP hO _ nq (v:=ai bU 0) rfl (aU (aP hO _ nq (v:=ai b8 0) rfl (ah b0 (hG (ao:=nD w.bR) hO _ EW rfl rfl (by omega) (az2 (N:=30) (bI:=⟨w0 w.off,w.bj,0⟩) (s:=mh) (c:=w.kg) (bR:=w.bR) (aM.key.app) aM.zT (by omega) (by omega) (by omega) (by decide) ⟨by decide,by decide⟩ aAj hv aAk (Nat.le_trans (aAh gM.2) (by omega)) aQ (zero_le _) hO ?_ ?_))))))));clear hO;intro h H hO;refine ah jT (ah jU (aU ?_));have eh:aj H ((((S++X)++qz)++(((bU,(⟨fQ cd sT 0,true⟩:ay))::du qy (pY w))++[(b8,⟨fp (mh.jI w.bR.iZ w.bR.aC).2.2 qy.cG,true⟩)]))++[(ft,⟨[ai qy.cG 0,ai bU 0,ai b8 0,.pointer none,int 0],true⟩)]):=
  hO.e4 (gI fun p=>by simp only[countP_append,countP_cons,countP_nil];omega)
 refine tv eh rfl (show 3<5 by omega) (bu:=[ai qy.cG 0,ai bU 0,ai b8 0,.pointer none,int 0]) rfl ?_;clear hO eh;intro H hO;refine aU (tv hO rfl (show 4<5 by omega) (bu:=[ai qy.cG 0,ai bU 0,ai b8 0,.pointer none,int (mh.jI w.bR.iZ w.bR.aC).2.1]) rfl ?_);clear hO;intro H hO;exact ey h cA H ft _ _ _ _ hO;clear hO;intro h H q pk AK sg aAm aAn hg;subst AK sg aAm aAn;refine ah jT (ah jU (aU (c8.st hg rfl (show 3<5 by omega) (bu:=mI q) rfl ?_)));clear hg;intro H hg;refine aU (c8.st hg rfl (show 4<5 by omega) (bu:=mI q) rfl ?_);clear hg;intro H hg;rw[append_assoc]at hg;refine pd h cA H ft q (X++pk) E9 hL (hg.sub ?_);rw[SY,append_assoc,append_assoc];refine List.Sublist.append_left ?_ F;exact .cons _ (.cons _ (sublist_append_right _ _))
end J
namespace J
open Go Go.Ab
variable[cr:bW]
variable{H:ar}{S F:List (Nat×ay)}{ab:VH}{v:Value}{ao:List Value}{f j k o:Nat}{e:Int}{w:ei}{wv ov fv kv:Value}
theorem aAo(aM:nX S ov w.off)(hO:aj H (S++F)){t0:Value}{bL:LX}{cy:LN}(jW:∀aa,cy [.bool true] aa)(ys:(∀o∈w.off,o.1.length<=200/\o.2.length<=4000)->∀aa,aj aa (S++F)->bL 0 [t0] aa)(aR:w.off.length<=5):
  eI P true 70 PK 4 [t0,ov,int w.off.length,int 0] H bL cy:=by
 refine aox (fun k aF aa=>∃(y:Nat),y<=w.off.length/\k=w.off.length-y/\aF=[t0,ov,int w.off.length,int y]/\aj aa (S++F)/\∀o∈w.off.take y,o.1.length<=200/\o.2.length<=4000) _ _ ?_ w.off.length _ _ ⟨0,zero_le _,rfl,rfl,hO,by simp⟩;rintro k aF H ⟨y,a8,rfl,rfl,hO,kD⟩;unfold X1
 try simp only[cu,cv]
 refine ah ez (bz (fun h=>?_) (fun h=>?_));have fU:y<w.off.length:=by omega
 obtain⟨p,c,j,zW,ao,hx,rfl,bh,oV,oH,nj⟩:=aM.get fU;refine ah (h4 (by omega) (by omega)) ?_;rw[Int.toNat_natCast];refine hG (ao:=[bl w.off[y].1,hx]) hO j (aK bh) oV rfl (by omega) ?_;rw[LV];refine c4 hO ?_;intro e9 H hO;refine e7 hO (_+0) (aA rfl) rfl rfl (by rw[all_cons,all_cons,LW oH];rfl) ?_;intro H hO
 replace hO:=hO.cb
 replace hO:aj H ((S++F)++[(e9,⟨[bl w.off[y].1,hx],true⟩)]):=hO
 have sS:(au P .add 3 true).f (int y) (int 1)=some (int ((y+1:Nat):Int)):=by grind[jg]
 refine ah b0 (aP hO ((S++F).length+0) (aA rfl) (v:=bl w.off[y].1) rfl (bV Ef (ah kQ (bz (fun h1=>?_) (fun h1=>?_)))));exact ah (hT h1) (fg rfl (jW H));refine ah b0 (aP hO ((S++F).length+0) (aA rfl) (v:=hx) rfl (bV oH.bP (ah kQ (ah (ho h1) (bz (fun h2=>?_) (fun h2=>?_))))));exact jW H;refine ah sS (⟨_,by omega,y+1,fU,rfl,rfl,hO.left,?_⟩)
 grind[Hp]
 have e:y=w.off.length:=by omega
 subst e;rw[take_length]at kD;exact ys kD H hO
theorem aAp(aM:pZ S w wv ov fv kv)(hO:aj H (S++F))(jW:∀aa,ab (.bool true) aa)(ys:w.jP->∀aa,aj aa (S++F)->ab (.bool false) aa):az P 11 [agg (jb w wv ov fv kv)] H ab:=by
 apply aoy;unfold X2;refine c4 hO ?_;intro aW H hO;refine e6 (fun aF aa=>aF=[ai aW 0,.bool false]/\aa=H/\(1<=w.k4/\w.k4<=20)/\w.gp.length<=30/\w.off.length<=5/\w.bj.length<=60/\w.kg.key.length<=200/\w.kg.cE.length<=200/\w.bR.cz.length<=200) ?_ ?_
 ·have cw:∀ {o:Nat} {v:Value} {ab:VH},(jb w wv ov fv kv)[o]?=some v->ab v H->af (ax (ai aW o) H) ab:=fun h1 h2=>aP hO ((S++F).length+0) (aA rfl) h1 h2
  refine ah b0 (cw (v:=int w.k4) rfl (ah ez (bz (fun h1=>?_) (fun h1=>?_))))
  ·refine ah (hT h1) ?_
   iterate 6 refine ah ll ?_
   exact fg rfl (jW _)
  refine ah b0 (cw (v:=int w.k4) rfl (ah kQ (ah (ho h1) (bz (fun h2=>?_) (fun h2=>?_)))))
  ·refine ah (hT h2) ?_
   iterate 5 refine ah ll ?_
   exact fg rfl (jW _)
  refine ah b0 (cw (v:=wv) rfl (bV aM.gp.bP (ah kQ (ah (ho h2) (bz (fun aB=>?_) (fun aB=>?_))))))
  ·refine ah (hT aB) ?_
   iterate 4 refine ah ll ?_
   exact fg rfl (jW _)
  refine ah b0 (cw (v:=ov) rfl (bV aM.off.bP (ah kQ (ah (ho aB) (bz (fun bk=>?_) (fun bk=>?_))))))
  ·refine ah (hT bk) ?_
   iterate 3 refine ah ll ?_
   exact fg rfl (jW _)
  refine ah b0 (cw (v:=fv) rfl (bV aM.bj.bP (ah kQ (ah (ho bk) (bz (fun cj=>?_) (fun cj=>?_))))))
  ·refine ah (hT cj) ?_
   iterate 2 refine ah ll ?_
   exact fg rfl (jW _)
  refine ah b0 (ah b0 (cw (v:=kv) rfl (bV aM.key.bP (ah kQ (ah (ho cj) (bz (fun dh=>?_) (fun dh=>?_)))))))
  ·exact ah (hT dh) (ah ll (fg rfl (jW _)))
  refine ah b0 (ah b0 (cw (v:=bl w.kg.cE) rfl (bV Ef (ah kQ (ah (ho dh) (bz (fun fP=>?_) (fun fP=>?_)))))))
  ·exact ah (hT fP) (fg rfl (jW _))
  refine ah b0 (ah b0 (cw (v:=bl w.bR.cz) rfl (bV Ef (ah kQ (ah (ho fP) (bz (fun hM=>?_) (fun hM=>?_)))))))
  ·exact jW _
  ·exact⟨rfl,rfl,by omega,by omega,by omega,by omega,by omega,by omega,by omega⟩
 rintro aF aa ⟨rfl,rfl,gM,gN,mU,lE,pE,rF,wL⟩
 try simp only[cu,cv]
 refine ah b0 (aP hO ((S++F).length+0) (aA rfl) (v:=ov) rfl (bV aM.off.bP (aAo (w:=w) aM.off hO.left jW ?_ mU)));intro f8 cB de;exact ys ⟨gM,gN,mU,lE,pE,rF,wL,f8⟩ cB de
end J
namespace J
open Go Go.Ab
variable[cr:bW]
variable{H:ar}{ae bX S F X:List (Nat×ay)}{ab:VH}{v sU kv:Value}{r n f j o p eb:Nat}{e b bx:Int}{key qA:List Int}{cE:List UInt8}
theorem aAq{v w:Value}(h1:∀q∈b9 [v],q≠p)(h2:∀q∈b9 [w],q≠p):pG (b9 [v,w]) (b9 [ai p 0]):=by
 unfold pG nJ;have e:b9 [ai p 0]=[p]:=rfl;rw[e,j0,all_eq_true]
 grind[b9,afJ]
theorem ago(h:qo ae v):∀q∈b9 [v],∃(j:Nat) (b:ay),ae[j]?=some (q,b):=by
 intro q cf;rcases h with rfl|⟨p,o,n,c,j,b,rfl,h2,_⟩
 cases cf;have:q=p:=mem_singleton.1 cf
 grind
theorem aAr(vq:b3 S kv key)(Fx:cl key)(nR:key.length<=1000)(agp:b3 S sU qA)(aAs:cl qA)(sl:qA.length<=100000)(hb:qo S sU)(GM:eb<18446744073709551616)(iD:0<=bx/\bx<=9223372036854775807)(bS:cE.length<=1000)(hO:aj H (S++F))
  (ey:¬en (pf cE eb bx qA)->∀v r aa,ab (.tuple [v,r,.bool false].toArray) aa)
  (pd:en (pf cE eb bx qA)->∀aa hx aT X,b3 (S++X) hx (qp key (pf cE eb bx qA)++qA)->eY (S++X) aT (pf cE eb bx qA).bo->aj aa ((S++X)++F)->ab (.tuple [hx,agg (bM (pf cE eb bx qA) aT),.bool true].toArray) aa):
  az P 16 [kv,bl cE,bQ .u64 eb,int bx,sU] H ab:=by
 apply aoD;unfold X7;rw[yr];refine c4 hO ?_;intro qB H hO;have IW:∀ {m:dm} {aT:Value} {tA:List (Nat×ay)} {bb:Int} {H:ar},m.b6->eY tA aT m.bo->(bb=0↔en m)->(en m->m=pf cE eb bx qA)->(¬en m->¬en (pf cE eb bx qA))->aj H (((S++F)++[(qB,⟨bM cT bq,true⟩)])++tA)->
   cp (bM cT bq) H fun mH aAt=>
   af (bm 37 mH (agg (bM m aT)) aAt) fun u q0=>
   af (bT 37 mH q0) fun Sc aAu=>
   az P 70 [kv,Sc] aAu fun agq agr=>
   ad (ee 0 agq) fun ags=>
   ad (ee 1 agq) fun aAv=>
   af (fu 1 1 ags sU agr) fun Hr Hs=>
   af (bT 37 mH Hs) fun Ht Hu=>
   pG (b9 [ags,sU]) (b9 [mH])/\l8 (b9 [mH]) agr.next Hs.next/\(ad ((au P .eql 3 true).f (int bb) (int 0)) fun Cc=>
   aG Cc (
   ad ((au P .eql 3 true).f aAv (int 0)) fun SZ=>
   ad (aY Cc SZ (.bool false)) fun S0=>
   af (bm 37 (ai qB 0) Ht Hu) fun Sp Hv=>
   af (bT 37 (ai qB 0) Hv) fun r _=>
   ab (.tuple [Hr,r,S0].toArray) Hv) (
   ad (aY Cc undef (.bool false)) fun Ta=>
   af (bm 37 (ai qB 0) Ht Hu) fun afg Hw=>
   af (bT 37 (ai qB 0) Hw) fun Tb _=>
   ab (.tuple [Hr,Tb,Ta].toArray) Hw)):=by
  intro m aT tA bb H ok kU Cb u5 p4 hO;refine c4 hO ?_;intro mH H hO;refine e7 hO (_+0) (aA rfl) (el rfl) (el ok.cX) (nf kU.e5) ?_;intro H hO
  replace hO:=hO.cb
  replace hO:aj H ((((S++F)++[(qB,⟨bM cT bq,true⟩)])++tA)++[(mH,⟨bM m aT,true⟩)]):=hO
  have L3:∀ {bX},(((((S++F)++[(qB,(⟨bM cT bq,true⟩:ay))])++tA)++[(mH,(⟨bM m aT,true⟩:ay))])++bX)[(((S++F)++[(qB,(⟨bM cT bq,true⟩:ay))])++tA).length+0]?=some (mH,⟨bM m aT,true⟩):=aK (aA rfl);refine fs hO (_+0) (aA rfl) (el ok.cX) (by omega) ?_;have ed:∀ {dS:Value} {kY:List Value} {aO:List Int} {bt:Int} {H:ar},e8 dS aO kY->aO.length<=100000->(bb=0->bt=0)->(bb=0->aO=qp key m)->aj H (((((S++F)++[(qB,⟨bM cT bq,true⟩)])++tA)++[(mH,⟨bM m aT,true⟩)])++bB dS kY)->
    af (fu 1 1 dS sU H) fun Hr Hs=>
    af (bT 37 (ai mH 0) Hs) fun Ht Hu=>
    pG (b9 [dS,sU]) (b9 [ai mH 0])/\l8 (b9 [ai mH 0]) H.next Hs.next/\(ad ((au P .eql 3 true).f (int bb) (int 0)) fun Cc=>
    aG Cc (
    ad ((au P .eql 3 true).f (int bt) (int 0)) fun SZ=>
    ad (aY Cc SZ (.bool false)) fun S0=>
    af (bm 37 (ai qB 0) Ht Hu) fun Sp Hv=>
    af (bT 37 (ai qB 0) Hv) fun r _=>
    ab (.tuple [Hr,r,S0].toArray) Hv) (
    ad (aY Cc undef (.bool false)) fun Ta=>
    af (bm 37 (ai qB 0) Ht Hu) fun afg Hw=>
    af (bT 37 (ai qB 0) Hw) fun Tb _=>
    ab (.tuple [Hr,Tb,Ta].toArray) Hw)):=by
   intro dS kY aO bt H bZ aDZ xr St hO;have eZ:∀q∈b9 [dS],q≠mH:=by intro q cf;obtain⟨j,b,bh⟩:=ago (e8.wX bZ) q cf;exact LI hO (aA bh) L3 (by grind)
   have fI:∀q∈b9 [sU],q≠mH:=by intro q cf;obtain⟨j,b,bh⟩:=ago hb q cf;have aE:=(List.getElem?_eq_some_iff.1 bh).1;exact LI hO (aK (aK (aK (aK (aK bh))))) L3 (by grind)
   have aAw:=GX (aa:=H) (fc:=0) hO L3;refine tf hO bZ (agp.app.app.app.app) (by omega) ?_;intro cB dD kR hO dr;refine fs hO _ L3 (el ok.cX) (by omega) (⟨aAq eZ fI,aAw _,?_⟩);have Tc:∀ {bX},((((((S++F)++[(qB,(⟨bM cT bq,true⟩:ay))])++tA)++bX)++bB dD kR))[(S++F).length+0]?=some (qB,⟨bM cT bq,true⟩):=aK (aK (aK (aA rfl)));refine ah fl (bz (fun h=>?_) (fun h=>?_))
   ·rw[xr h];refine ah fl (ah (hT h) (e7 hO _ Tc (el rfl) (el ok.cX) (nf kU.e5) ?_));intro iN hO;have U:=Cb.1 h;have eh:aj iN (((S++(tA++bB dD kR))++F)++[(qB,⟨bM m aT,true⟩),(mH,⟨bM m aT,true⟩)]):=by rw[append_assoc,append_assoc (((S++F)++_)),append_assoc (S++F),Go.Ab.cb]at hO;refine hO.e4 (gI fun p=>?_);show List.countP p ((S++F)++((qB,(⟨bM m aT,true⟩:ay))::(tA++([(mH,(⟨bM m aT,true⟩:ay))]++bB dD kR))))=_;simp only[countP_append,countP_cons,countP_nil];omega
    refine fs eh (((S++(tA++bB dD kR))++F).length+0) (aA rfl) (el ok.cX) (by omega) ?_;have hm:=u5 U;subst hm;rw[St h]at dr;have:=pd U iN dD aT (tA++bB dD kR) (by rw[<- append_assoc];exact dr.hF.app') (by rw[<- append_assoc];exact(kU.app').app) eh.left;exact this
   ·refine ah (ho h) ?_;have U:¬en m:=fun a6=>h (Cb.2 a6)
    refine e7 hO _ Tc (el rfl) (el ok.cX) (nf kU.e5) ?_;intro iN hO;exact fs hO _ (Kz Tc) (el ok.cX) (by omega) (ey (p4 U) _ _ _)
  refine aeq ok hO (vq.app.app.app.app) ((kU.app').app) Fx (by omega) ?_ ?_
  ·intro U cB de;refine ah jT (ah jU (ed .nil (by simp) (fun h=>absurd (Cb.1 h) U) (fun h=>absurd (Cb.1 h) U) ?_));show aj cB (_++[]);rw[append_nil];exact de
  ·intro U cB dS kY de bZ;refine ah jT (ah jU ?_);have an:=aev (key:=key) ok U;exact ed bZ (by omega) (fun _=>rfl) (fun _=>rfl) de
 refine ayD hO (agp.app.app) aAs (by omega) GM (by omega) (by omega) ?_ ?_
 ·intro U cB de;refine ah jT (ah jU ?_);have aN:¬en cT:=fun h=>by obtain⟨_,h,_⟩:=h;exact absurd h (by decide)
  exact IW (tA:=[]) BU eY.nil ⟨fun h=>(by cases h),fun h=>absurd h aN⟩ (fun h=>absurd h aN) (fun _=>U) (by rw[append_nil];exact de)
 ·intro U cB aT de kU;refine ah jT (ah jU ?_);have zQ:=SE U;unfold pf at zQ;rw[Et]at zQ;exact IW (Sr GM (by omega) (by omega) (by omega) (by omega)) kU ⟨fun _=>U,fun _=>rfl⟩ (fun _=>rfl) (fun h=>absurd U h) de
end J
namespace J
open Go Go.Ab
variable[cr:bW]
variable{H:ar}{S F X:List (Nat×ay)}{ab:VH}{kv ov:Value}{n f k ft p eb:Nat}{e a b bx:Int}{key qA:List Int}{cE:List UInt8}
def p0:List Int:=[107,101,121]
def tB:List Int:=List.replicate 100 0
def Hx:dm:=pf kK 3 64 tB
def EF:List Int:=qp p0 Hx++tB
def nE(cz:List UInt8):ei:=⟨4,100,[],[(kK,EF)],[],⟨p0,kK,2,2,10,0,0⟩,⟨1,1,cz,0⟩⟩
theorem agt:en Hx:=ayO ayP (by decide) (by decide) (by decide) (by decide) (by decide) (by decide) (by decide) (by decide)
theorem Td:Hx.b6:=Sr (by decide) (by decide) (by decide) (by decide) (by decide)
theorem agu:cl p0:=by intro x al;grind[p0]
theorem agv:cl tB:=fun x al=>by have:x=0:=eq_of_mem_replicate al;omega
theorem agw(H:ar):(eg P 22 3).f [(0,.int .u8 107),(1,.int .u8 101),(2,.int .u8 121)] H=some (aC H.next 0 3 3,H.push (a1 p0)):=by rfl
theorem aAx:qH P 22=⟨tI 1 1 [.int .u8 0]⟩:=by rfl
theorem aAy(l:List UInt8)(a:Option Addr)(n c:Nat):(c9 P 59).f [(0,bl l),(1,.slice a n c)]=some (agg [bl l,.slice a n c]):=by rfl
theorem aAz(l:List UInt8)(a:Option Addr)(n c:Nat)(H:ar):(eg P 23 1).f [(0,agg [bl l,.slice a n c])] H=some (aC H.next 0 1 5,H.push [bl l,.slice a n c]):=by rfl
theorem aAA(a:Option Addr)(n c:Nat):(c9 P 26).f [(0,.slice a n c),(1,(.string ⟨#[99,111,114,101]⟩)),(2,(.int .i64 2)),(3,(.int .i64 2)),(4,(.int .i64 10))]=some (agg (mG ⟨p0,kK,2,2,10,0,0⟩ (.slice a n c))):=by rfl
theorem aAB:(c9 P 29).f [(0,(.int .i64 1)),(1,(.int .i64 1)),(2,(.string ⟨#[99,111,114,101]⟩))]=some (agg (nD ⟨1,1,kK,0⟩)):=by rfl
theorem aAC(a b:Option Addr)(n c m d:Nat):(c9 P 31).f [(0,(.int .i64 4)),(1,(.int .i64 100)),(3,.slice a n c),(5,agg (mG ⟨p0,kK,2,2,10,0,0⟩ (.slice b m d))),(6,agg (nD ⟨1,1,kK,0⟩))]=some (agg (jb (nE kK) bq (.slice a n c) bq (.slice b m d))):=by rfl
def Te:ei:=⟨0,0,[],[],[],⟨[],[],0,0,0,0,0⟩,⟨0,0,[],0⟩⟩
theorem agx:cQ P 31=jb Te bq bq bq bq:=by rfl
theorem aAD:cl EF:=nc (nc (aeo Td) aen) agv
theorem aAE:EF.length<=2328:=by grind[aev,Td,agt,EF,tB]
theorem aAF:fR 100 [.int .u8 0]=a1 tB:=by rfl
theorem aAG:(Value.string ⟨#[99,111,114,101]⟩)=bl kK:=rfl
theorem agy(hO:aj H (S++F))(ag:∀aa ov kv X,pZ (S++X) (nE kK) bq ov bq kv->aj aa ((S++X)++F)->ab (agg (jb (nE kK) bq ov bq kv)) aa):az P 26 [] H ab:=by
 apply aoM;unfold Yh;rw[agx];refine c4 hO ?_;intro t0 H hO;refine gj hO (agw _) ?_;intro bO H hO;refine K2 hO 0 rfl (by omega) ?_;rw[aAx];refine FX (k:=.i64) (eE:=.i64) (size:=1) (bytes:=1) (z:=[.int .u8 0]) (n:=100) hO (by omega) (by omega) ?_;intro pj H hO;rw[aAF]at hO
 replace hO:aj H ((S++[(bO,⟨a1 p0,true⟩),(pj,⟨a1 tB,true⟩)])++(F++[(t0,⟨jb Te bq bq bq bq,true⟩)])):=
  hO.e4 (gI fun p=>by grind)
 rw[aAG];have ob:tB.length=100:=length_replicate;refine aAr (key:=p0) (qA:=tB) (cE:=kK) (eb:=3) (bx:=64) (yk (k:=0) rfl (.inr rfl) rfl) agu (by decide) (yk (k:=1) rfl (.inr rfl) ob) agv (by omega) (.inr ⟨pj,0,100,3,S.length+1,_,rfl,aA rfl,zA _,.inl rfl⟩) (by decide) (by decide) (by decide) hO (fun h=>absurd agt h) ?_;intro _ H hx aT X oH kU hO
 replace oH:b3 ((S++[(bO,⟨a1 p0,true⟩),(pj,⟨a1 tB,true⟩)])++X) hx EF:=oH
 replace kU:eY ((S++[(bO,⟨a1 p0,true⟩),(pj,⟨a1 tB,true⟩)])++X) aT Hx.bo:=kU
 refine ah (show _=some hx from rfl) (ah (show _=some (agg (bM Hx aT))from rfl) (ah (show _=some (.bool true)from rfl) ?_));rw[yr];refine c4 hO ?_;intro dJ H hO;refine e7 hO (_+0) (aA rfl) (el rfl) (el Td.cX) (nf kU.e5) ?_;intro H hO
 replace hO:=(hO.cb).left
 obtain⟨kX,ft,fX,aAH⟩:=oH.kz;subst aAH;refine ah (aAy _ _ _ _) (gj hO (aAz _ _ _ _ _) ?_);intro sV H hO;refine gj hO (agw _) ?_;intro dz H hO;refine K2 hO 0 rfl (by omega) (ah (aAA _ _ _) (ah aAB (ah (aAC _ _ _ _ _ _) ?_)));obtain⟨S2,agz⟩:∃S2,S2=(S++[(bO,(⟨a1 p0,true⟩:ay)),(pj,⟨a1 tB,true⟩)])++X:=⟨_,rfl⟩;rw[<- agz]at hO oH kU
 replace hO:aj H (((S2++[(sV,⟨[bl kK,.slice kX ft fX],true⟩),(dz,⟨a1 p0,true⟩)])++F)++[(t0,⟨jb Te bq bq bq bq,true⟩)]):=
  hO.e4 (gI fun p=>by grind)
 have hW:pZ (S2++[(sV,⟨[bl kK,.slice kX ft fX],true⟩),(dz,⟨a1 p0,true⟩)]) (nE kK) bq (aC sV 0 1 5) bq (aC dz 0 3 3):=by refine⟨b3.nil,(by intro x al;cases al),⟨[[bl kK,.slice kX ft fX]],.inr ⟨sV,5,S2.length+0,true,rfl,aA rfl,rfl⟩,Al.cons ⟨_,rfl,oH.app,aAD⟩ Al.nil⟩,gZ.nil,(by intro f hf;cases hf),yk (k:=1) rfl (.inr rfl) rfl,agu⟩
 refine e7 hO (_+0) (aA rfl) rfl rfl rfl ?_;intro H hO
 replace hO:=hO.cb
 refine fs hO (_+0) (aA rfl) rfl (by omega) ?_;subst agz;have e:((S++[(bO,(⟨a1 p0,true⟩:ay)),(pj,⟨a1 tB,true⟩)])++X)++[(sV,(⟨[bl kK,.slice kX ft fX],true⟩:ay)),(dz,⟨a1 p0,true⟩)]=S++(([(bO,(⟨a1 p0,true⟩:ay)),(pj,⟨a1 tB,true⟩)]++X)++[(sV,(⟨[bl kK,.slice kX ft fX],true⟩:ay)),(dz,⟨a1 p0,true⟩)]):=by simp_all
 rw[e]at hW hO;exact ag H _ _ _ hW hO.left
end J
namespace J
open Go Go.Ab
variable{c:iG}{eS:List j5}{ak:List Int}{w:Nat}{t:kJ}
theorem agA(r:List (Int×List Int))(bs:List Int):(c.yu r).G4 bs=if(fh c.key bs).2.2≠0 then {c with jA:=r,eS:=c.eS++[.rk (-1)]}else if qs (fh c.key bs).1 c.t≠0 then {c with jA:=r,bA:=qs (fh c.key bs).1 c.t}else {c with jA:=r,eS:=c.eS++[.nn (fh c.key bs).2.1 (fh c.key bs).1],iS:=c.iS++[.nn (fh c.key bs).2.1 (fh c.key bs).1],aI:=(fh c.key bs).1,aw:=some ([],0)}:=rfl
theorem aAI(r:List (Int×List Int))(ak:List Int)(w:Nat)(aX:List Int):(c.yu r).jI ak w aX=if((aX.length:Nat):Int)=(gm c.aI w).2/\hr aX=c.aI.bo.getD w []then {c with jA:=r,iS:=c.iS++[.body w aX],aw:=some (ak++aX,w+1)}else {c with jA:=r,eS:=c.eS++[.rk w]}:=rfl
end J
