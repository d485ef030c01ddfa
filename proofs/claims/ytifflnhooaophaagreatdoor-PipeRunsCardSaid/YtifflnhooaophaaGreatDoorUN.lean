/- texts of the kp, du behind the jV -/
import Derived.Test.YtifflnhooaophaaGreatDoorUM
set_option linter.unusedVariables false
set_option linter.unusedSimpArgs false
set_option linter.unusedSectionVars false
set_option maxHeartbeats 8000000
set_option maxRecDepth 100000
open List Nat
namespace J
open Go Go.Ab
section
variable[c0:cH]
variable{F H K L N S c fv bE kv aL m bR aC az r1 r2 s ab}
structure FE where
 key:LI
 cd:List UInt8
 lT:Int
 eY:Int
 ly:Int
 arM:Int
 dH:Int
structure FF where
 ga:Int
 am:Int
 c9:List UInt8
 cj:Nat
def jB(c:FE)(kv:Value):aj:=[kv,a6 c.cd,int c.lT,int c.eY,int c.ly,int c.arM,int c.dH]
def j8(j:FF):aj:=[int j.ga,int j.am,a6 j.c9,bB .u64 j.cj]
def qg(c:FE)(j:FF):dL:=⟨j.c9,(max 0 (min c.lT 100)).toNat,none,-1,0⟩
def FG(c:FE)(j:FF)(s:dU)(m:bh)(az:hS):cv:=
 {l:=qg c j
  c:={key:=c.key,t:=⟨c.cd,j.cj,64*(m.size (s.part j.am):Int)⟩,fJ:=[],ac1:=[],gW:=[],aC:=d8 c.eY,h0:=d8 c.eY,au:=cJ,ah:=none,cs:=false,aX:=0}
  w:={s:=s,bH:=s.c4,b4:=j.am,q:=[],au:=cJ,b6:=0,cM:=[],wr:=0,b8:=0,aX:=0,m:=m}
  az:=az
  d:=⟨0,max 1 (min c.ly 1000000),[0,0,0]⟩
  st:=1
  gg:=0}
theorem arN(aL t:Nat):(eg P 157).f [(0,ad aL 0),(1,bB .u64 t),(9,int 1)]=some (agg [ad aL 0,bB .u64 t,.pointer none,.pointer none,.pointer none,.pointer none,.pointer none,.pointer none,.pointer none,int 1,int 0]):=ao
theorem WO(l:List UInt8)(f:Nat)(r:Int):(eg P 94).f [(0,a6 l),(1,bB .u64 f),(2,int r)]=some (agg (lf ⟨l,f,r⟩)):=ao
theorem arO(aC r1 r2:Nat)(l:List UInt8)(t:Int):(eg P 244).f [(0,ad aC 0),(1,a6 l),(2,int t),(3,ad r1 0),(4,ad r2 0),(6,int (-1))]=some (agg [ad aC 0,a6 l,int t,ad r1 0,ad r2 0,.pointer none,int (-1),int 0]):=ao
theorem arP(b:ac H ab)(d:∀E a,ac E (ab++[aa a (gE aC r1 r2 (qg c bE) (.pointer none))])->K (ad a 0) E):aG P 80 [ad aC 0,a6 bE.c9,int c.lT,ad r1 0,ad r2 0] H K:=by refine ahe.1 ?_;refine bg rE (bg uQ (Z (arO _ _ _ _ _) (b0 b (fun a H b=>d H a ?_))));unfold gE qg;rw[Int.toNat_of_nonneg U];exact b
theorem Lh(h:bx S kv c.key):(jB c kv).all dx=true:=by show(dx kv&&_)=true;rw[bx.fM h];rfl
theorem arQ(h:bx S kv c.key):(jB c kv).all cS=true:=by show(cS kv&&_)=true;rw[bx.WB h];rfl
theorem arR(BR:bx S kv c.key)(Li:bM c.key)(Lj:c.key.length<=1000000)(vn:c.cd.length<=1000000)(xD:bE.c9.length<=1000000)(hg:s.c4<1000)(ah:s.br)(hm:jz m)(vt:jg L m)(nz:m.eV N)(lI:m.size ((s.dv bE.ga bE.am).2.2.part bE.am)<=100000)(ym:mJ S bR fv az)(arS:az.bU<=N)
  (b:ac H (((S++F)++((aa aC (fl bR fv az.bU))::cR L m))++[aa aL (eq s L.bn)]))
  (sh:(s.dv bE.ga bE.am).2.1≠0->∀E,ac E (((S++F)++((aa aC (fl bR fv az.bU))::cR L m))++[aa aL (eq (s.dv bE.ga bE.am).2.2 L.bn)])->K (.tuple [.pointer none,int (s.dv bE.ga bE.am).2.1].toArray) E)
  (M:(s.dv bE.ga bE.am).2.1=0->∀E q X,q.aC=aC->q.bR=bR->q.aL=aL->q.L=L->cl E (S++X) F q (FG c bE (s.dv bE.ga bE.am).2.2 m az) N->K (.tuple [ad q.co 0,int 0].toArray) E):
  aG P 27 [agg (jB c kv),ad aC 0,ad aL 0,agg (j8 bE)] H K:=by
 refine af5.1 ?_;obtain⟨w,z,B,rfl⟩:=BR.ha;refine b0 b ?_;intro C H b;refine b0 b ?_;intro eU H b;have dJ:∃a,a=(S++F)++((aa aC (fl bR fv az.bU))::cR L m):=⟨_,rfl⟩;obtain⟨a,dJ⟩:=dJ;rw[<- dJ]at sh b
 replace b:ac H ((a++[aa aL (eq s L.bn)])++[aa C (jB c (.slice w z B)),aa eU (j8 bE)]):=b.cf (cO fun p=>by
  show countP p (((a++[aa aL (eq s L.bn)])++[aa C (jB c (.slice w z B))])++[aa eU (j8 bE)])=_
  simp_all)
 refine Z bj (aD b (v:=int bE.ga) rfl (Z bj (aD b (v:=int bE.am) rfl (V8 hg b ?_))));intro H b;refine Z f5 (Z f6 (Z dX (ay (fun h=>?_) (fun h=>?_))));exact sh h H b.left;have c8:(s.dv bE.ga bE.am).2.1=0:=U
 have tK:(s.dv bE.ga bE.am).1=(s.dv bE.ga bE.am).2.2.c4/\(s.dv bE.ga bE.am).2.2.br:=by
  unfold dU.dv at c8⊢;split
  simp_all
  rename_i aH;rw[if_neg aH]at c8;split
  simp_all
  exact⟨rfl,a1,ah.p⟩
 have M:=M c8;generalize (s.dv bE.ga bE.am).1=ho at*;generalize (s.dv bE.ga bE.am).2.2=bJ at*;obtain⟨tK,FH⟩:=tK;subst tK;refine Z (arN _ _) (b0 b ?_);intro u H b
 replace b:ac H (a++[aa aL (eq bJ L.bn),aa C (jB c (.slice w z B)),aa eU (j8 bE),aa u [ad aL 0,bB .u64 bJ.c4,.pointer none,.pointer none,.pointer none,.pointer none,.pointer none,.pointer none,.pointer none,int 1,int 0]]):=b.cf (cO fun p=>by
  show countP p (((a++[aa aL (eq bJ L.bn)])++[aa C (jB c (.slice w z B)),aa eU (j8 bE)])++[aa u [ad aL 0,bB .u64 bJ.c4,.pointer none,.pointer none,.pointer none,.pointer none,.pointer none,.pointer none,.pointer none,int 1,int 0]])=_
  simp_all)
 have FI:=Lh (c:=c) BR;refine Z bj (aD b (v:=int c.eY) rfl ?_);have zg:=b;refine aov b ?_;intro H k d g hA b;refine Z bj (aD b (v:=int c.eY) rfl (⟨jf zg b FI,?_⟩));have s2:=b;refine Vn b ?_;intro H l dD i c7 b;refine Z bj (aD b (v:=int c.eY) rfl (⟨jf s2 b FI,jf zg s2 FI,?_⟩));refine Vn b ?_;intro H o cB j lM b
 replace b:ac H (a++[aa aL (eq bJ L.bn),aa C (jB c (.slice w z B)),aa eU (j8 bE),aa u [ad aL 0,bB .u64 bJ.c4,.pointer none,.pointer none,.pointer none,.pointer none,.pointer none,.pointer none,.pointer none,int 1,int 0],aa k g,aa d (cw k (d8 c.eY) 2 0 0),aa l i,aa dD (cw l (d8 c.eY) 1 0 0),aa o j,aa cB (cw o (d8 c.eY) 1 0 0)]):=b
 refine ai (cQ b (a.length+3) (al rfl) rfl (show 2<11 by omega) (bI:=[ad aL 0,bB .u64 bJ.c4,ad d 0,.pointer none,.pointer none,.pointer none,.pointer none,.pointer none,.pointer none,int 1,int 0]) rfl ?_);intro H b;rw[Go.Ab.bp]at b;refine ai (cQ b (a.length+3) (al rfl) rfl (show 3<11 by omega) (bI:=[ad aL 0,bB .u64 bJ.c4,ad d 0,ad dD 0,.pointer none,.pointer none,.pointer none,.pointer none,.pointer none,int 1,int 0]) rfl ?_);intro H b;rw[Go.Ab.bp]at b;refine ai (cQ b (a.length+3) (al rfl) rfl (show 4<11 by omega) (bI:=[ad aL 0,bB .u64 bJ.c4,ad d 0,ad dD 0,ad cB 0,.pointer none,.pointer none,.pointer none,.pointer none,int 1,int 0]) rfl ?_);intro H b;rw[Go.Ab.bp]at b
 replace b:ac H (a++[aa aL (eq bJ L.bn),aa C (jB c (.slice w z B)),aa eU (j8 bE),aa u [ad aL 0,bB .u64 bJ.c4,ad d 0,ad dD 0,ad cB 0,.pointer none,.pointer none,.pointer none,.pointer none,int 1,int 0],aa k g,aa d (cw k (d8 c.eY) 2 0 0),aa l i,aa dD (cw l (d8 c.eY) 1 0 0),aa o j,aa cB (cw o (d8 c.eY) 1 0 0)]):=b
 refine Z bj (aD b (v:=a6 c.cd) rfl (Z bj (aD b (v:=bB .u64 bE.cj) rfl (Z bj (aD b (v:=int bE.am) rfl ?_)))));have s2:ac H (((S++F)++((aa aC (fl bR fv az.bU))::[aa aL (eq bJ L.bn),aa C (jB c (.slice w z B)),aa eU (j8 bE),aa u [ad aL 0,bB .u64 bJ.c4,ad d 0,ad dD 0,ad cB 0,.pointer none,.pointer none,.pointer none,.pointer none,int 1,int 0],aa k g,aa d (cw k (d8 c.eY) 2 0 0),aa l i,aa dD (cw l (d8 c.eY) 1 0 0),aa o j,aa cB (cw o (d8 c.eY) 1 0 0)]))++cR L m):=by rw[dJ]at b;exact b.cf (cO fun p=>by simp only[countP_append,countP_cons,countP_nil];omega)
 have i1:((S++F)++((aa aC (fl bR fv az.bU))::[aa aL (eq bJ L.bn),aa C (jB c (.slice w z B)),aa eU (j8 bE),aa u [ad aL 0,bB .u64 bJ.c4,ad d 0,ad dD 0,ad cB 0,.pointer none,.pointer none,.pointer none,.pointer none,int 1,int 0],aa k g,aa d (cw k (d8 c.eY) 2 0 0),aa l i,aa dD (cw l (d8 c.eY) 1 0 0),aa o j,aa cB (cw o (d8 c.eY) 1 0 0)]))[(S++F).length+1]?=some (aa aL (eq bJ L.bn)):=al rfl;refine KJ s2 i1 ?_;intro e1 V
 replace V:ac e1 (a++[aa aL (eq bJ L.bn),aa C (jB c (.slice w z B)),aa eU (j8 bE),aa u [ad aL 0,bB .u64 bJ.c4,ad d 0,ad dD 0,ad cB 0,.pointer none,.pointer none,.pointer none,.pointer none,int 1,int 0],aa k g,aa d (cw k (d8 c.eY) 2 0 0),aa l i,aa dD (cw l (d8 c.eY) 1 0 0),aa o j,aa cB (cw o (d8 c.eY) 1 0 0)]):=by rw[dJ];exact V.cf (cO fun p=>by simp only[countP_append,countP_cons,countP_nil];omega)
 refine⟨jf b V rfl,jf b V FI,?_⟩;rename_i dc;refine Z (v:=int (64*(m.size (bJ.part bE.am):Int))) (by grind[su]) (Z (WO _ _ _) (b0 V ?_));intro J H b;refine dn b (_+0) (al rfl) ao rfl rfl ?_;intro H b
 replace b:=b.bp
 replace b:ac H ((a++[aa aL (eq bJ L.bn),aa C (jB c (.slice w z B)),aa eU (j8 bE),aa u [ad aL 0,bB .u64 bJ.c4,ad d 0,ad dD 0,ad cB 0,.pointer none,.pointer none,.pointer none,.pointer none,int 1,int 0],aa k g,aa d (cw k (d8 c.eY) 2 0 0),aa l i,aa dD (cw l (d8 c.eY) 1 0 0),aa o j,aa cB (cw o (d8 c.eY) 1 0 0)])++[aa J (lf ⟨c.cd,bE.cj,64*(m.size (bJ.part bE.am):Int)⟩)]):=b
 rw[append_assoc]at b;refine Z bj (aD b (v:=a6 bE.c9) rfl (Z bj (aD b (v:=int c.lT) rfl (ai (aD b (v:=ad d 0) rfl (ai (aD b (v:=ad dD 0) rfl (arP b ?_))))))));intro H e b;rw[append_assoc]at b;refine ai (cQ b (a.length+3) (al rfl) rfl (show 5<11 by omega) (bI:=[ad aL 0,bB .u64 bJ.c4,ad d 0,ad dD 0,ad cB 0,ad e 0,.pointer none,.pointer none,.pointer none,int 1,int 0]) rfl ?_);intro H b;rw[Go.Ab.bp]at b
 replace b:ac H (a++[aa aL (eq bJ L.bn),aa C (jB c (.slice w z B)),aa eU (j8 bE),aa u [ad aL 0,bB .u64 bJ.c4,ad d 0,ad dD 0,ad cB 0,ad e 0,.pointer none,.pointer none,.pointer none,int 1,int 0],aa k g,aa d (cw k (d8 c.eY) 2 0 0),aa l i,aa dD (cw l (d8 c.eY) 1 0 0),aa o j,aa cB (cw o (d8 c.eY) 1 0 0),aa J (lf ⟨c.cd,bE.cj,64*(m.size (bJ.part bE.am):Int)⟩),aa e (gE aC d dD (qg c bE) (.pointer none))]):=b
 refine Z bj (aD b (v:=.slice w z B) rfl (bK b (n:=3) rfl U (ai (aD b (v:=ad d 0) rfl (ai (aD b (v:=ad dD 0) rfl (ai (aD b (v:=ad cB 0) rfl (ao6 (key:=c.key) (t:=⟨c.cd,bE.cj,64*(m.size (bJ.part bE.am):Int)⟩) b (by rw[dJ];exact BR.app.app.app) Lj ?_)))))))));intro H f r I b arT
 replace b:ac H ((a++aw f r)++[aa aL (eq bJ L.bn),aa C (jB c (.slice w z B)),aa eU (j8 bE),aa u [ad aL 0,bB .u64 bJ.c4,ad d 0,ad dD 0,ad cB 0,ad e 0,.pointer none,.pointer none,.pointer none,int 1,int 0],aa k g,aa d (cw k (d8 c.eY) 2 0 0),aa l i,aa dD (cw l (d8 c.eY) 1 0 0),aa o j,aa cB (cw o (d8 c.eY) 1 0 0),aa J (lf ⟨c.cd,bE.cj,64*(m.size (bJ.part bE.am):Int)⟩),aa e (gE aC d dD (qg c bE) (.pointer none)),aa I (ew f ⟨c.cd,bE.cj,64*(m.size (bJ.part bE.am):Int)⟩ d dD cB cJ aA (.pointer none) false 0)]):=b.cf (cO fun p=>by simp only[countP_append,countP_cons,countP_nil];omega)
 generalize arU:a++aw f r=nA at*;refine ai (cQ b (nA.length+3) (al rfl) rfl (show 6<11 by omega) (bI:=[ad aL 0,bB .u64 bJ.c4,ad d 0,ad dD 0,ad cB 0,ad e 0,ad I 0,.pointer none,.pointer none,int 1,int 0]) rfl ?_);intro H b;rw[Go.Ab.bp]at b
 replace b:ac H (nA++[aa aL (eq bJ L.bn),aa C (jB c (.slice w z B)),aa eU (j8 bE),aa u [ad aL 0,bB .u64 bJ.c4,ad d 0,ad dD 0,ad cB 0,ad e 0,ad I 0,.pointer none,.pointer none,int 1,int 0],aa k g,aa d (cw k (d8 c.eY) 2 0 0),aa l i,aa dD (cw l (d8 c.eY) 1 0 0),aa o j,aa cB (cw o (d8 c.eY) 1 0 0),aa J (lf ⟨c.cd,bE.cj,64*(m.size (bJ.part bE.am):Int)⟩),aa e (gE aC d dD (qg c bE) (.pointer none)),aa I (ew f ⟨c.cd,bE.cj,64*(m.size (bJ.part bE.am):Int)⟩ d dD cB cJ aA (.pointer none) false 0)]):=b
 refine Z bj (aD b (v:=int bE.am) rfl (ai (aD b (v:=ad cB 0) rfl (aqo b ?_))));intro H W b;rw[append_assoc]at b;refine ai (cQ b (nA.length+3) (al rfl) rfl (show 7<11 by omega) (bI:=[ad aL 0,bB .u64 bJ.c4,ad d 0,ad dD 0,ad cB 0,ad e 0,ad I 0,ad W 0,.pointer none,int 1,int 0]) rfl ?_);intro H b;rw[Go.Ab.bp]at b
 replace b:ac H (nA++[aa aL (eq bJ L.bn),aa C (jB c (.slice w z B)),aa eU (j8 bE),aa u [ad aL 0,bB .u64 bJ.c4,ad d 0,ad dD 0,ad cB 0,ad e 0,ad I 0,ad W 0,.pointer none,int 1,int 0],aa k g,aa d (cw k (d8 c.eY) 2 0 0),aa l i,aa dD (cw l (d8 c.eY) 1 0 0),aa o j,aa cB (cw o (d8 c.eY) 1 0 0),aa J (lf ⟨c.cd,bE.cj,64*(m.size (bJ.part bE.am):Int)⟩),aa e (gE aC d dD (qg c bE) (.pointer none)),aa I (ew f ⟨c.cd,bE.cj,64*(m.size (bJ.part bE.am):Int)⟩ d dD cB cJ aA (.pointer none) false 0),aa W (hp aL bJ.c4 bE.am cB cJ aA 0 aA 0 0 0)]):=b
 refine Z bj (aD b (v:=int c.ly) rfl (aqM (g6:=3) b ?_));intro aF bw H b;rw[append_assoc]at b;refine ai (cQ b (nA.length+3) (al rfl) rfl (show 8<11 by omega) (bI:=[ad aL 0,bB .u64 bJ.c4,ad d 0,ad dD 0,ad cB 0,ad e 0,ad I 0,ad W 0,ad bw 0,int 1,int 0]) rfl ?_);intro H b;rw[Go.Ab.bp]at b
 replace b:ac H (nA++[aa aL (eq bJ L.bn),aa C (jB c (.slice w z B)),aa eU (j8 bE),aa u [ad aL 0,bB .u64 bJ.c4,ad d 0,ad dD 0,ad cB 0,ad e 0,ad I 0,ad W 0,ad bw 0,int 1,int 0],aa k g,aa d (cw k (d8 c.eY) 2 0 0),aa l i,aa dD (cw l (d8 c.eY) 1 0 0),aa o j,aa cB (cw o (d8 c.eY) 1 0 0),aa J (lf ⟨c.cd,bE.cj,64*(m.size (bJ.part bE.am):Int)⟩),aa e (gE aC d dD (qg c bE) (.pointer none)),aa I (ew f ⟨c.cd,bE.cj,64*(m.size (bJ.part bE.am):Int)⟩ d dD cB cJ aA (.pointer none) false 0),aa W (hp aL bJ.c4 bE.am cB cJ aA 0 aA 0 0 0),(aF,fK [0,0,0]),(bw,fP 0 (max 1 (min c.ly 1000000)) aF 3)]):=b
 have axG:gU 2 (d8 c.eY) 0 [] g:=hA;refine M H ⟨⟨k,d,d8 c.eY,0,g,[]⟩,⟨l,dD,d8 c.eY,0,i,[]⟩,⟨o,cB,d8 c.eY,0,j,[]⟩,I,W,aL,e,aC,bR,bw,aF,u,f,.pointer none,fv,aA,.pointer none,aA,aA,[],L⟩ (aw f r) rfl rfl rfl rfl ⟨?_,_,fun _=>rfl,?_⟩;have arV:bx (S++aw f r) f c.key:=arT.gd.app';have WP:mV (S++aw f r) ⟨k,d,d8 c.eY,0,g,[]⟩ []:=⟨hA,.nil,aW⟩;have WQ:mW (S++aw f r) ⟨l,dD,d8 c.eY,0,i,[]⟩ []:=⟨c7,.nil⟩;have WR:mW (S++aw f r) ⟨o,cB,d8 c.eY,0,j,[]⟩ []:=⟨lM,.nil⟩;refine⟨p4,.inl ⟨rfl,rfl⟩,.inl rfl,rfl,p4,FH,hm,vt,nz,ym.app,arS,rfl,?_,by show(0:Int)<=1099511627776;omega,fun _=>⟨⟨arV,Li,Lj,vn,WP,WQ,WR,rfl,rfl,p4,.inl ⟨rfl,rfl⟩,.t6⟩,⟨WP,WQ,rfl,ym.app,xD,by show(max 0 (min c.lT 100)).toNat<=100;omega,by show(-2:Int)<=-1/\(-1:Int)<=1000;omega,fun _ _ h=>(by cases h),fun _=>.inl rfl⟩,⟨WR,p4,.inl ⟨rfl,rfl⟩,?_,(by intro x ey;cases ey),FH,hm,vt,zero_le _,zero_le _⟩,rfl,Int.le_refl 0⟩⟩;intro y fS;have fS:y∈ [(0:Int),0,0]:=fS;simp at fS;subst fS;exact⟨Int.le_refl 0,Int.le_refl 0⟩;exact .inl ⟨rfl,rfl⟩;subst arU;rw[dJ]at b;refine(b.sub (bL:=((((S++F)++((aa aC (fl bR fv az.bU))::cR L m))++aw f r)++[aa aL (eq bJ L.bn),aa u [ad aL 0,bB .u64 bJ.c4,ad d 0,ad dD 0,ad cB 0,ad e 0,ad I 0,ad W 0,ad bw 0,int 1,int 0],aa k g,aa d (cw k (d8 c.eY) 2 0 0),aa l i,aa dD (cw l (d8 c.eY) 1 0 0),aa o j,aa cB (cw o (d8 c.eY) 1 0 0),aa e (gE aC d dD (qg c bE) (.pointer none)),aa I (ew f ⟨c.cd,bE.cj,64*(m.size (bJ.part bE.am):Int)⟩ d dD cB cJ aA (.pointer none) false 0),aa W (hp aL bJ.c4 bE.am cB cJ aA 0 aA 0 0 0),(aF,fK [0,0,0]),(bw,fP 0 (max 1 (min c.ly 1000000)) aF 3)])) ?_).cf (cO fun p=>?_)
 refine List.Sublist.append_left ?_ _;refine .cons_cons _ (.cons _ (.cons _ (.cons_cons _ (.cons_cons _ (.cons_cons _ (.cons_cons _ (.cons_cons _ (.cons_cons _ (.cons_cons _ (.cons _ (List.Sublist.refl _)))))))))));show _=countP p (((S++aw f r)++(F++([aa k g,aa d (cw k (d8 c.eY) 2 0 0),aa l i,aa dD (cw l (d8 c.eY) 1 0 0),aa o j,aa cB (cw o (d8 c.eY) 1 0 0),aa e (gE aC d dD (qg c bE) (.pointer none))]++[])))++([aa I (ew f ⟨c.cd,bE.cj,64*(m.size (bJ.part bE.am):Int)⟩ d dD cB cJ aA (.pointer none) false 0),aa aL (eq bJ L.bn),aa W (hp aL bJ.c4 bE.am cB cJ aA 0 aA 0 0 0),aa aC (fl bR fv az.bU),(bw,fP 0 (max 1 (min c.ly 1000000)) aF 3),(aF,fK [0,0,0]),aa u [ad aL 0,bB .u64 bJ.c4,ad d 0,ad dD 0,ad cB 0,ad e 0,ad I 0,ad W 0,ad bw 0,int 1,int 0]]++cR L m));simp only[countP_append,countP_cons,countP_nil];omega
end
section
variable[c0:cH]
variable{H K n BS ab}
section
theorem arW{w:Nat}(F:n<=4096)(I:w<=100000)(l:max (0:Int) (min BS 100000)=w)(a:ac H ab)(t:∀E d b,ac E (ab++gr d b aA (ba.ci n w))->K (ad d 0) E):aG P 55 [int n,int BS] H K:=by
 refine agN.1 ?_;refine bg rE (bg uQ ?_);rw[show max (0:Int) (min (n:Int) 4096)=n by omega,alw];refine uR (k:=.i64) (eF:=.i64) a U U ?_;intro b H a;refine bg rE (bg uQ ?_);rw[l];refine Z (alx n b w) (b0 a ?_);intro d H a
 repeat refine aQ ?_
 refine aD a rfl ?_
 repeat refine lL ?_
 rw[A4]at a
 replace a:ac H (ab++gr d b aA {ba.ci n w with cells:=replicate n fY}):=by
  have u:=a;have q:=u.je;rw[append_assoc]at q;have e:hy b aA {ba.ci n w with cells:=replicate n fY}=[am b 0 n 259,aA,int w,int (-1),.bool false]:=by unfold hy;rw[length_replicate];rfl
  show ac H (ab++([aa d (hy b aA {ba.ci n w with cells:=replicate n fY}),aa b (ie (replicate n fY))]++[]));rw[e];exact q
 refine agM (fun k r E=>∃y:Nat,y<=n/\k=n-y/\r=[.pointer none,ad d 0,int n,int y]/\ac E (ab++gr d b aA {ba.ci n w with cells:=replicate y pk++replicate (n-y) fY})) _ _ ?_ n _ _ ⟨0,U,rfl,rfl,a⟩;rintro k r E ⟨y,J,rfl,rfl,a⟩;unfold Rm;refine ul ?_
 repeat refine aQ ?_
 refine ay (fun h=>?_) (fun h=>?_);generalize s:replicate y pk++replicate (n-y) fY=C at*;have v:C.length=n:=aT
 have m:∀c∈C,c.br:=by
  intro c f;rw[<- s]at f;rcases mem_append.1 f with f|f
  rw[(List.mem_replicate.1 f).2];exact A5;rw[(List.mem_replicate.1 f).2];exact aly
 repeat refine aQ ?_
 refine aD a rfl (yJ a ?_);intro L g;refine⟨jf a g rfl,?_⟩;refine yJ g ?_;intro M j;refine⟨jf g j rfl,?_⟩;refine Z (ald rfl rfl) (Z (ez U a1) ?_);have x:(ie C).length=n*129:=by grind[SX]
 have p:=yI (i:=y) (o:=0) (y:=pk) (fun c f=>sE (m c f)) U (by rw[sE A5];omega) (by simp_all[sE,A5]);refine kx j (ab.length+1) (al rfl) (sE A5) aT (ak3 _) ?_;intro H a
 repeat refine aQ ?_
 refine⟨_,U,y+1,U,rfl,rfl,alv a ?_ ?_ rfl rfl rfl rfl⟩;have z:0+(y:Int).toNat*129=y*129+0:=U
 rw[z];refine p.trans ?_;rw[<- s,set_append_right _ _ aW,length_replicate,Nat.sub_self,show n-y=(n-(y+1))+1 by omega,replicate_succ,set_cons_zero,replicate_succ'];simp[ie]
 grind
 have B:y=n:=U
 subst B;rw[Nat.sub_self,replicate_zero,append_nil]at a
 repeat refine qJ ?_
 exact t _ d b a
end
end
section
variable{F H ev eR dF S a m t0 pc v dG x ae y}
section
variable[c0:cH]
structure dZ where
 oa:Int
 nB:Int
 dG:LI
 off:kD
 aK:List oX
 mK:FE
 bE:FF
def h9(w:dZ)(wv ov fv kv:Value):aj:=int w.oa::int w.nB::wv::ov::fv::(jB w.mK kv++j8 w.bE)
def FJ(x:Int):LI:=x::replicate 63 0
theorem WS(x:Int):(eg P 102).f [(0,.int .u8 x)]=some (jt (FJ x)):=ao
theorem WT(h:0<=x/\x<=255):bM (FJ x):=by
 intro y a;rcases List.mem_cons.1 a with rfl|a
 exact h
 simp_all
theorem FK(x:Int):(FJ x).length=64:=ao
def xa(m:bh)(x:Int):bh:=(m.fh (1+((x.toNat%2:Nat):Int)) ((x.toNat/2:Nat):Int) (FJ x)).1
def ir(m:bh)(dG:LI):bh:=dG.foldl xa m
theorem FL(h:bx S v ae)(a:y<ae.length):∃(p o c j:Nat) (b:ef),v=am p o ae.length c/\S[j]?=some (p,b)/\b.cells[o+((y:Nat):Int).toNat*1]?=some (.int .u8 ae[y]):=by
 have⟨p,o,c,j,b,d,e,f⟩:=bx.at h a
 grind
theorem FM(h:0<=a/\a<=255):fd .i64 (.int .u8 a) H=some (int a,H):=by
 show some (Value.int .i64 (hk .i64 a),H)=_
 grind[tz]
theorem arX(x:bx S v dG)(q:bM dG)(B:dG.length<=30)(l:jz m)(a:jg ev m)(d:m.eV 0)(n:ac H ((S++F)++cR ev m))
  (C:∀E bW,ev.Eq bW->jz (ir m dG)->jg bW (ir m dG)->(ir m dG).eV 30->ac E ((S++F)++cR bW (ir m dG))->dF 0 [t0,pc,ad ev.bn 0] E):
  i7 P true 95 IL 14 [t0,pc,ad ev.bn 0,v,int dG.length,int 0] H dF eR:=by
 refine afP (fun k w E=>∃(y:Nat) (bW:no),y<=dG.length/\k=dG.length-y/\w=[t0,pc,ad ev.bn 0,v,int dG.length,int y]/\ev.Eq bW/\jz (ir m (dG.take y))/\jg bW (ir m (dG.take y))/\(ir m (dG.take y)).eV y/\ac E ((S++F)++cR bW (ir m (dG.take y)))) _ _ ?_ dG.length _ _ ⟨0,ev,zero_le _,rfl,rfl,.eu,l,a,d,n⟩;rintro k w H ⟨y,bW,W,rfl,rfl,r,l,a,d,n⟩;unfold QU;refine ul ?_
 try simp only[c1,c2]
 refine Z cV (ay (fun h=>?_) (fun h=>?_));have f:y<dG.length:=U
 have g:=q dG[y] (getElem_mem f);obtain⟨p,o,c,j,b,rfl,I,J⟩:=FL x f;refine Z (ez U U) (bk n j (ak (ak I)) J ?_);have K:=zm f;have i:ir m (dG.take (y+1))=xa (ir m (dG.take y)) dG[y]:=by grind[ir]
 obtain⟨z,L⟩:∃z:Nat,dG[y]=z:=⟨dG[y].toNat,U⟩;unfold xa at i;rw[L]at g i⊢;rw[Int.toNat_natCast]at i;refine bg (FM g) (Z (p5 bT) ?_);generalize M:z%2=N at*;refine Z (v:=int (1+(N:Int))) (by grind[f2]) (bg (FM g) (Z (qX bT U) (Z (WS _) ?_)));rw[<- r.m];refine Tm l.ok (FK _) (d.mono U) n a fun X V s t u=>Z (by grind[f2]) (⟨_,U,y+1,V,f,rfl,rfl,r.trans s,?_,?_,?_,?_⟩)
 rw[i];exact KV (FK _) (WT g) _ l;rw[i];exact u;rw[i];exact bh.Ju d;rw[i];exact t;have e:y=dG.length:=U
 subst e;rw[take_length]at l a d n;exact C H bW r l a (d.mono B) n
end
end
section
variable{F qc H K N S X eJ ag bI fv kv o ov p q v w wv}
section
variable[c0:cH]
theorem cl.sub(h:cl H S F q p N)(ah:qc.Sublist F):cl H S qc q p N:=by have⟨ar,R,a,b⟩:=h;refine⟨ar,R,a,b.sub ?_⟩;exact List.Sublist.append_right (List.Sublist.append_left (List.Sublist.append_right ah R) S) _
theorem cl.st(h:cl H S (F++[aa eJ ag]) q p N)(c:cS v=true)(d:o<ag.length)(e:ag.set o v=bI)(f:∀E,cl E S (F++[aa eJ bI]) q p N->K undef E):a7 (d9 1 (ad eJ o) v H) K:=by have⟨ar,R,g,i⟩:=h;have a:ac H (((S++(F++R))++km q p)++[aa eJ ag]):=i.cf (cO fun p=>aT);exact qb a c d e fun E b=>f E ⟨ar,R,g,b.cf (cO fun p=>aT)⟩
def kE(q:iy):aj:=[ad q.L.bn 0,ad q.aC 0,ad q.aL 0,ad q.co 0,int 0]
theorem arY(a b c:Nat):(eg P 42).f [(0,ad a 0),(1,ad b 0),(2,ad c 0)]=some (agg [ad a 0,ad b 0,ad c 0,.pointer none,int 0]):=ao
theorem WU:(eg P 108).f [(0,(.int .i64 1)),(1,(.int .i64 2))]=some (agg [int 1,int 2]):=ao
theorem WV(a b c:Int)(H:an):(gY P 48 3).f [(0,int a),(1,int b),(2,int c)] H=some (am H.next 0 3 3,H.push [int a,int b,int c]):=ao
theorem arZ(p:Nat):(cz P .eql 37 true).f (ad p 0) (.pointer none)=some (.bool false):=ao
def lz(w:dZ):bh:={(ir ⟨ba.ci 60 ((max 0 (min w.nB 100000)).toNat:Int),h5 0 [1,w.oa.toNat,w.oa.toNat],0,[]⟩ w.dG).gR.1 with bm:=[]}
def kn:dU:=⟨0,0,0,0,1,2⟩
structure nC (S:LB) (w:dZ) (wv ov fv kv:Value):Prop where
 dG:bx S wv w.dG
 wT:bM w.dG
 off:lS S ov w.off
 aK:f8 S fv w.aK
 qe:∀f∈w.aK,f.v<256
 key:bx S kv w.mK.key
 kB:bM w.mK.key
structure dZ.h4 (w:dZ):Prop where
 s:1<=w.oa/\w.oa<=20
 dG:w.dG.length<=30
 off:w.off.length<=5
 aK:w.aK.length<=60
 key:w.mK.key.length<=200
 cd:w.mK.cd.length<=200
 c9:w.bE.c9.length<=200
 uE:∀o∈w.off,o.1.length<=200/\o.2.length<=4000
theorem nC.app(h:nC S w wv ov fv kv):nC (S++X) w wv ov fv kv:=⟨h.dG.app,h.wT,h.off.app,h.aK.app,h.qe,h.key.app,h.kB⟩
theorem WW(h:nC S w wv ov fv kv):(h9 w wv ov fv kv).all dx=true:=by
 have⟨aI,a,_⟩:=h.off;have b:dx ov=true:=by rcases a with⟨rfl,_⟩|⟨p,c,j,w,rfl,_⟩<;>rfl
 show(true&&(true&&(dx wv&&(dx ov&&(dx fv&&(jB w.mK kv++j8 w.bE).all dx)))))=true;rw[bx.fM h.dG,b,h.aK.mF,all_append,Lh h.key];rfl
theorem ar0(m:bh):∀(dG:LI),(ir m dG).e3=m.e3:=by
 intro dG;induction dG generalizing m with
 | nil=>rfl
 | cons x r a=>simp_all[ir,xa,bh.alD]
theorem ar1(w:dZ):(lz w).e3=[(0,1),(1,w.oa.toNat),(1+w.oa.toNat,w.oa.toNat)]:=by
 show(ir _ w.dG).e3=_
 simp_all[ar0,h5]
end
end
section
variable{F H K S fv kv w2 ov bq cq w nB wv}
def jU(w:dZ):cv:=FG w.mK w.bE (kn.dv w.bE.ga w.bE.am).2.2 (lz w) ⟨w7 w.off,w.aK,0⟩
theorem WX:bh.p8 ⟨ba.ci w2 nB,cq,0,[]⟩:=by intro c a x b;have:c=pk:=eq_of_mem_replicate a;subst this;have:x=255:=eq_of_mem_replicate b;omega
theorem ar2(h:w.oa<=20):(lz w).size bq<=20:=by
 unfold bh.size;split;unfold bh.ky;rw[ar1]
 grind
 omega
theorem WY[c0:cH](hf:w.h4)(t:nC S w wv ov fv kv)(a:ac H (S++F))
  (sh:(kn.dv w.bE.ga w.bE.am).2.1≠0->∀(bW:cH) E eJ f aC aL X ab,@ac bW E (((S++X)++F)++(ab++[aa eJ [ad f 0,ad aC 0,ad aL 0,.pointer none,int (kn.dv w.bE.ga w.bE.am).2.1]]))->K (ad eJ 0) E)
  (V:(kn.dv w.bE.ga w.bE.am).2.1=0->∀(bW:cH) E eJ q X,(∀x∈c0.l,x.1<q.bR)->(∃T,bW=gP q.bR (ij T) c0)->@cl bW E (S++X) (F++[aa eJ (kE q)]) q (jU w) 30->K (ad eJ 0) E):
  aG P 12 [agg (h9 w wv ov fv kv)] H K:=by
 refine afQ.1 ?_;obtain⟨si,l4,wm,lp,xR,Hz,ar3,Lk⟩:=hf;have W:=WW t;obtain⟨n,eZ⟩:=Int.eq_ofNat_of_zero_le (show 0<=w.oa by omega);have eZ:w.oa=(n:Int):=eZ;refine b0 a ?_;clear a;intro i H a
 replace a:ac H (S++(F++[aa i (h9 w wv ov fv kv)])):=by rw[<- append_assoc];exact a
 have FN:∀ {B},((S++(F++[aa i (h9 w wv ov fv kv)]))++B)[S.length+(F.length+0)]?=some (aa i (h9 w wv ov fv kv)):=ak (al (al rfl));refine Z bj (aD a rfl ?_);have j:=a;refine arW (n:=60) (w:=(max 0 (min w.nB 100000)).toNat) U U U a ?_;clear a;intro H aS ch a;refine Z bj (aD a rfl (⟨jf j a W,?_⟩));refine Z bj (aD a (v:=int w.oa) rfl (⟨jf j a W,?_⟩));clear j;rw[eZ];refine el a (WV _ _ _ _) ?_;clear a;intro C H a;refine alJ (hN:=[1,n,n]) (Jv:=(S++(F++[aa i (h9 w wv ov fv kv)])).length+0) (c:=3) (ba.Jo U U) a.je (al rfl) aW aW (fun x ey=>by simp at ey;omega) (by grind[ba.ci]) (.inl ⟨rfl,rfl,rfl⟩) ?_;clear a;intro H f bv a k;refine Z f5 (Z f6 (cy (fun bN E=>bN=[ad i 0,.pointer none,ad f 0]/\E=H) ?_ ?_));exact Z (aqp _) (cT rfl (Z dX (Z lb (ix bT (⟨rfl,rfl⟩)))));rintro bN E ⟨rfl,rfl⟩
 try simp only[c1,c2]
 replace a:ac E ((S++(F++[aa i (h9 w wv ov fv kv),aa C [int 1,int n,int n]]))++cR ⟨f,aS,ch,bv,aA,aA⟩ ⟨ba.ci 60 ((max 0 (min w.nB 100000)).toNat:Int),h5 0 [1,n,n],0,[]⟩):=
  a.cf (cO fun p=>a1)
 have ll:jz ⟨ba.ci 60 ((max 0 (min w.nB 100000)).toNat:Int),h5 0 [1,n,n],0,[]⟩:=by
  refine⟨⟨ba.Jo U U,?_,by simp_all[EF]⟩,WX⟩;intro x ey;have ey:x∈ [(0,1),(0+1,n),(0+1+n,n)]:=ey;show x.1+x.2<=(replicate 60 pk).length
  grind
 have axH:∀ {B},((S++(F++[aa i (h9 w wv ov fv kv),aa C [int 1,int n,int n]]))++B)[S.length+(F.length+0)]?=some (aa i (h9 w wv ov fv kv)):=ak (al (al rfl));refine Z bj (aD a (v:=wv) rfl (bg t.dG.aZ (arX (ev:=⟨f,aS,ch,bv,aA,aA⟩) t.dG t.wT l4 ll k ⟨Nat.le_refl 0,Nat.le_refl 0⟩ a ?_)));clear a k ll;intro H WZ Xa ll k I a;show cond (beq 0 0) _ _;rw[beq_refl];show aG P 57 [ad f 0] H _;rw[show f=WZ.bn from Xa.m.symm];refine Tn ll.ok (I.mono U) a k ?_;have r:=BF _ ll;have zn:=bh.EE I;clear a k;intro H xb FO a k;rw[<- FO.m];refine To a k ?_;clear a k;intro H a k;have lh:({(ir ⟨ba.ci 60 ((max 0 (min w.nB 100000)).toNat:Int),h5 0 [1,n,n],0,[]⟩ w.dG).gR.1 with bm:=[]}:bh)=lz w:=by simp_all[lz]
 rw[lh]at a k;have Ll:jz (lz w):=by rw[<- lh];exact⟨⟨r.ok.d,r.ok.s,r.ok.n⟩,r.b⟩
 have Lm:(lz w).eV 30:=by rw[<- lh];exact⟨zn.1,zero_le _⟩
 clear r zn I ll;generalize hM (ir ⟨ba.ci 60 ((max 0 (min w.nB 100000)).toNat:Int),h5 0 [1,n,n],0,[]⟩ w.dG).gR.1.bm=Ln at a;obtain⟨g,J⟩:∃g:no,g={xb with e0:=aA}:=⟨_,rfl⟩;have Xb:xb.bn=g.bn:=by rw[J]
 rw[<- J]at a k;rw[Xb];obtain⟨e,Xc⟩:∃e,e=aw xb.e0 Ln:=⟨_,rfl⟩;rw[<- Xc]at a;clear J Xb Xa FO Xc
 replace a:ac H (S++(((F++[aa i (h9 w wv ov fv kv),aa C [int 1,int n,int n]])++e)++cR g (lz w))):=
  a.cf (cO fun p=>a1)
 refine Z bj (aD a (v:=ov) rfl (Z bj (aD a (v:=fv) rfl (arL (fun o gH=>aT) U t.off t.aK U t.qe a ?_))));clear a;intro bW H bR aC u X Lo hL ar a;refine Z WU (aqm a ?_);clear a;intro H aL a;refine Z (arY _ _ _) (b0 a ?_);clear a;intro eJ H a
 replace a:ac H ((((((S++X)++(((F++[aa i (h9 w wv ov fv kv),aa C [int 1,int n,int n]])++e)++cR g (lz w)))++[aa aC (fl bR u 0)])++[aa aL (eq kn g.bn)])++[aa eJ [ad g.bn 0,ad aC 0,ad aL 0,.pointer none,int 0]])):=a
 replace a:ac H ((((S++X)++(((F++[aa i (h9 w wv ov fv kv),aa C [int 1,int n,int n]])++e)++[aa eJ [ad g.bn 0,ad aC 0,ad aL 0,.pointer none,int 0]]))++((aa aC (fl bR u 0))::cR g (lz w)))++[aa aL (eq kn g.bn)]):=
  a.cf (cO fun p=>by simp only[countP_append,countP_cons,countP_nil];omega)
 obtain⟨M,y⟩:∃M,M=(F++[aa i (h9 w wv ov fv kv),aa C [int 1,int n,int n]])++e:=⟨_,rfl⟩;rw[<- y]at a;have oF:∀ {B L},((((S++X)++(M++[aa eJ [ad g.bn 0,ad aC 0,ad aL 0,.pointer none,int 0]]))++B)++L)[(S++X).length+(M.length+0)]?=some (aa eJ [ad g.bn 0,ad aC 0,ad aL 0,.pointer none,int 0]):=ak (ak (al (al rfl)));have zO:∀ {B L ar4},((((S++X)++(M++ar4))++B)++L)[(S++X).length+(F.length+0)]?=some (aa i (h9 w wv ov fv kv)):=by rw[y];exact ak (ak (al (ak (ak (al rfl)))))
 refine cy (fun bN E=>bN=[ad i 0,ad eJ 0]/\E=H) ?_ ?_;exact ai (aD a (v:=ad aC 0) rfl (Z (arZ _) (cT rfl (ai (aD a (v:=ad aL 0) rfl (Z (aqq _) (Z lb (cT rfl (⟨rfl,rfl⟩)))))))));rintro bN E ⟨rfl,rfl⟩
 try simp only[c1,c2]
 refine Z bj (fe (ag:=jB w.mK kv) a _ zO rfl rfl U (ai (aD a (v:=ad aC 0) rfl (ai (aD a (v:=ad aL 0) rfl (Z bj (fe (ag:=j8 w.bE) a _ zO rfl rfl U (arR (N:=30) (az:=⟨w7 w.off,w.aK,0⟩) (s:=kn) (c:=w.mK) (bE:=w.bE) (t.key.app) t.kB U U U bT ⟨bT,bT⟩ Ll k Lm (Nat.le_trans (ar2 si.2) U) ar (zero_le _) a ?_ ?_))))))));clear a;intro h H a;refine Z f5 (Z f6 (ai ?_));have j:ac H ((((S++X)++M)++(((aa aC (fl bR u 0))::cR g (lz w))++[aa aL (eq (kn.dv w.bE.ga w.bE.am).2.2 g.bn)]))++[aa eJ [ad g.bn 0,ad aC 0,ad aL 0,.pointer none,int 0]]):=
  a.cf (cO fun p=>by simp only[countP_append,countP_cons,countP_nil];omega)
 refine qb j rfl (show 3<5 by omega) (bI:=[ad g.bn 0,ad aC 0,ad aL 0,.pointer none,int 0]) rfl ?_;clear a j;intro H a;refine ai (qb a rfl (show 4<5 by omega) (bI:=[ad g.bn 0,ad aC 0,ad aL 0,.pointer none,int (kn.dv w.bE.ga w.bE.am).2.1]) rfl ?_);clear a;intro H a;exact sh h bW H eJ _ _ _ X (([aa i (h9 w wv ov fv kv),aa C [int 1,int n,int n]]++e)++(((aa aC (fl bR u 0))::cR g (lz w))++[aa aL (eq (kn.dv w.bE.ga w.bE.am).2.2 g.bn)])) (by rw[y]at a;simp only[append_assoc]at a⊢;exact a);clear a;intro h H q ko ar5 v7 ar6 ar7 z;subst ar5 v7 ar6 ar7;refine Z f5 (Z f6 (ai (cl.st z rfl (show 3<5 by omega) (bI:=kE q) rfl ?_)));clear z;intro H z;refine ai (cl.st z rfl (show 4<5 by omega) (bI:=kE q) rfl ?_);clear z;intro H z;rw[append_assoc]at z;refine V h bW H eJ q (X++ko) Lo hL (z.sub ?_);rw[y,append_assoc,append_assoc];refine List.Sublist.append_left ?_ F;exact .cons _ (.cons _ (sublist_append_right _ _))
theorem Xd[c0:cH](f:w.h4)(g:nC S w wv ov fv kv)(c:ac H (S++F))
  (d:(kn.dv w.bE.ga w.bE.am).2.1≠0->∀(bW:cH) E eJ e aC aL ab,@ac bW E (ab++[aa eJ [ad e 0,ad aC 0,ad aL 0,.pointer none,int (kn.dv w.bE.ga w.bE.am).2.1]])->K (ad eJ 0) E)
  (b:(kn.dv w.bE.ga w.bE.am).2.1=0->∀(bW:cH) E eJ q X,(∀x∈c0.l,x.1<q.bR)->(∃T,bW=gP q.bR (ij T) c0)->@cl bW E (S++X) (F++[aa eJ (kE q)]) q (jU w) 30->K (ad eJ 0) E):
  aG P 12 [agg (h9 w wv ov fv kv)] H K:=
 WY f g c (fun h bW H eJ e aC aL X a c=>by rw[<- append_assoc]at c;exact d h bW H eJ e aC aL _ c) b
end
section
variable[c0:cH]
variable{F H K eR dF S fv kv ov t0 w wv}
theorem ar8{w:dZ}(s:lS S ov w.off)(a:ac H (S++F))(b:∀E,eR [.bool true] E)(d:(∀o∈w.off,o.1.length<=200/\o.2.length<=4000)->∀E,ac E (S++F)->dF 0 [t0] E)(z:w.off.length<=5):
  i7 P true 70 IK 4 [t0,ov,int w.off.length,int 0] H dF eR:=by
 refine afN (fun k r E=>∃(y:Nat),y<=w.off.length/\k=w.off.length-y/\r=[t0,ov,int w.off.length,int y]/\ac E (S++F)/\∀o∈w.off.take y,o.1.length<=200/\o.2.length<=4000) _ _ ?_ w.off.length _ _ ⟨0,zero_le _,rfl,rfl,a,aW⟩;rintro k r H ⟨y,B,rfl,rfl,a,g⟩;unfold QT;refine ul ?_;refine Z cV (ay (fun h=>?_) (fun h=>?_));have i:y<w.off.length:=U
 obtain⟨p,c,j,C,ag,t,rfl,u,m,l,v⟩:=s.get i;refine Z (ez U U) (fe a j (ak u) m rfl U (b0 a fun eU H a=>dn a (_+0) (al rfl) rfl rfl (by rw[all_cons,all_cons,BQ l];rfl) ?_));intro H a
 replace a:=a.bp
 replace a:ac H ((S++F)++[aa eU [a6 w.off[y].1,t]]):=a
 have n:(cz P .add 3 true).f (int y) (int 1)=some (int ((y+1:Nat):Int)):=by grind[f2]
 refine Z bj (aD a rfl (bg yZ (Z go (ay (fun q=>Z (dT q) (dz rfl (b H))) (fun q=>?_)))));refine Z bj (aD a rfl (bg l.aZ (Z go (Z (dl q) (ay (fun x=>b H) (fun x=>?_))))));refine Z n (⟨_,U,y+1,i,rfl,rfl,a.left,?_⟩)
 grind[zm]
 have e:y=w.off.length:=U
 subst e;rw[take_length]at g;exact d g H a
theorem ar9(c:nC S w wv ov fv kv)(d:ac H (S++F))(a:∀E,K (.bool true) E)(b:w.h4->∀E,ac E (S++F)->K (.bool false) E):aG P 11 [agg (h9 w wv ov fv kv)] H K:=by
 refine afO.1 ?_;refine b0 d fun m H d=>cy (fun n E=>n=[ad m 0,.bool false]/\E=H/\(1<=w.oa/\w.oa<=20)/\w.dG.length<=30/\w.off.length<=5/\w.aK.length<=60/\w.mK.key.length<=200/\w.mK.cd.length<=200/\w.bE.c9.length<=200) ?_ ?_
 ·have bY:∀ {o:Nat} {v:Value} {K:VH},(h9 w wv ov fv kv)[o]?=some v->K v H->a7 (db (ad m o) H) K:=fun e f=>aD d e f
  refine Z bj (bY rfl (Z cV (ay (fun e=>?_) (fun e=>?_))))
  ·apply Z (dT e)
   iterate 6 refine Z ja ?_
   exact dz rfl (a _)
  refine Z bj (bY rfl (Z go (Z (dl e) (ay (fun f=>?_) (fun f=>?_)))))
  ·apply Z (dT f)
   iterate 5 refine Z ja ?_
   exact dz rfl (a _)
  refine Z bj (bY rfl (bg c.dG.aZ (Z go (Z (dl f) (ay (fun g=>?_) (fun g=>?_))))))
  ·apply Z (dT g)
   iterate 4 refine Z ja ?_
   exact dz rfl (a _)
  refine Z bj (bY rfl (bg c.off.aZ (Z go (Z (dl g) (ay (fun h=>?_) (fun h=>?_))))))
  ·apply Z (dT h)
   iterate 3 refine Z ja ?_
   exact dz rfl (a _)
  refine Z bj (bY rfl (bg c.aK.aZ (Z go (Z (dl h) (ay (fun i=>?_) (fun i=>?_))))))
  ·apply Z (dT i)
   iterate 2 refine Z ja ?_
   exact dz rfl (a _)
  refine Z bj (Z bj (bY rfl (bg c.key.aZ (Z go (Z (dl i) (ay (fun j=>Z (dT j) (Z ja (dz rfl (a _)))) (fun j=>(Z bj (Z bj (bY rfl (bg yZ (Z go (Z (dl j) (ay (fun k=>Z (dT k) (dz rfl (a _))) (fun k=>(Z bj (Z bj (bY rfl (bg yZ (Z go (Z (dl k) (ay (fun q=>a _) (fun q=>?_)))))))))))))))))))))))
  ·exact⟨rfl,rfl,U,U,U,U,U,U,U⟩
 rintro n E ⟨rfl,rfl,r,s,p,lp,t,u,x⟩;refine Z bj (aD d rfl (bg c.off.aZ (ar8 c.off d.left a ?_ p)));intro y z l;exact b ⟨r,s,p,lp,t,u,x,y⟩ z l
end
section
variable[c0:cH]
variable{F H K S bz oZ bc key kv p cd v de w ab}
theorem asa(a:∀q∈dM [v],q≠p)(b:∀q∈dM [w],q≠p):pP (dM [v,w]) (dM [ad p 0]):=by
 unfold pP lj;have e:dM [ad p 0]=[p]:=rfl;rw[e,ia,all_eq_true]
 grind[dM,Wi]
theorem Xe(h:kV ab v):∀q∈dM [v],∃(j:Nat) (b:ef),ab[j]?=some (q,b):=by
 intro q a;rcases h with rfl|⟨p,o,n,c,j,b,rfl,d,_⟩
 cases a;have:q=p:=mem_singleton.1 a
 grind
theorem asb(BR:bx S kv key)(Li:bM key)(Lj:key.length<=1000)(vu:bx S bc oZ)(asc:bM oZ)(tp:oZ.length<=100000)(lm:kV S bc)(J:de<18446744073709551616)(aeq:0<=bz/\bz<=9223372036854775807)(jJ:cd.length<=1000)(d:ac H (S++F))
  (sh:¬dy (mH cd de bz oZ)->∀v r E,K (.tuple [v,r,.bool false].toArray) E)
  (asd:dy (mH cd de bz oZ)->∀E cp aq X,bx (S++X) cp (pt key (mH cd de bz oZ)++oZ)->df (S++X) aq (mH cd de bz oZ).aU->ac E ((S++X)++F)->K (.tuple [cp,agg (aR (mH cd de bz oZ) aq),.bool true].toArray) E):
  aG P 16 [kv,a6 cd,bB .u64 de,int bz,bc] H K:=by
 refine afT.1 ?_;apply b0 d;intro a H d;have L:∀ {m:fi} {aq:Value} {n:LB} {cU:Int} {H:an},m.br->df n aq m.aU->(cU=0↔dy m)->(dy m->m=mH cd de bz oZ)->(¬dy m->¬dy (mH cd de bz oZ))->ac H (((S++F)++[aa a (aR cJ aA)])++n)->
   iO (aR cJ aA) H fun c ase=>
   a7 (d9 37 c (agg (aR m aq)) ase) fun u Xf=>
   a7 (jo 37 c Xf) fun asf asg=>
   aG P 70 [kv,asf] asg fun Xg Xh=>
   bD (la 0 Xg) fun Xi=>
   bD (la 1 Xg) fun ash=>
   a7 (dj 1 1 Xi bc Xh) fun o s=>
   a7 (jo 37 c s) fun t w=>
   pP (dM [Xi,bc]) (dM [c])/\uM (dM [c]) Xh.next s.next/\(bD ((cz P .eql 3 true).f (int cU) (int 0)) fun e=>
   fW e (
   bD ((cz P .eql 3 true).f ash (int 0)) fun M=>
   bD (jP e M (.bool false)) fun N=>
   a7 (d9 37 (ad a 0) t w) fun Ft x=>
   a7 (jo 37 (ad a 0) x) fun r _=>
   K (.tuple [o,r,N].toArray) x) (
   bD (jP e undef (.bool false)) fun g=>
   a7 (d9 37 (ad a 0) t w) fun Xj y=>
   a7 (jo 37 (ad a 0) y) fun V _=>
   K (.tuple [o,V,g].toArray) y)):=by
  intro m aq n cU H z i B Fu Fv d;refine b0 d fun c H d=>dn d (_+0) (al rfl) (b7 rfl) (b7 z.bi) (hB i.du) ?_
  intro H d
  replace d:=d.bp
  replace d:ac H ((((S++F)++[aa a (aR cJ aA)])++n)++[aa c (aR m aq)]):=d
  have W:∀ {bL},(((((S++F)++[aa a (aR cJ aA)])++n)++[aa c (aR m aq)])++bL)[(((S++F)++[aa a (aR cJ aA)])++n).length+0]?=some (aa c (aR m aq)):=ak (al rfl);apply bK d (b7 z.bi) U;have gD:∀ {fs:Value} {C:aj} {a2:LI} {dw:Int} {H:an},dm fs a2 C->a2.length<=100000->(cU=0->dw=0)->(cU=0->a2=pt key m)->ac H (((((S++F)++[aa a (aR cJ aA)])++n)++[aa c (aR m aq)])++aw fs C)->
    a7 (dj 1 1 fs bc H) fun o s=>
    a7 (jo 37 (ad c 0) s) fun t w=>
    pP (dM [fs,bc]) (dM [ad c 0])/\uM (dM [ad c 0]) H.next s.next/\(bD ((cz P .eql 3 true).f (int cU) (int 0)) fun e=>
    fW e (
    bD ((cz P .eql 3 true).f (int dw) (int 0)) fun M=>
    bD (jP e M (.bool false)) fun N=>
    a7 (d9 37 (ad a 0) t w) fun Ft x=>
    a7 (jo 37 (ad a 0) x) fun r _=>
    K (.tuple [o,r,N].toArray) x) (
    bD (jP e undef (.bool false)) fun g=>
    a7 (d9 37 (ad a 0) t w) fun Xj y=>
    a7 (jo 37 (ad a 0) y) fun V _=>
    K (.tuple [o,V,g].toArray) y)):=by
   intro fs C a2 dw H bP axI FO asi d;have f1:∀q∈dM [fs],q≠c:=by intro q iM;have⟨j,b,jI⟩:=Xe (dm.fz bP) q iM;exact Fx d (al jI) W aT
   have gm:∀q∈dM [bc],q≠c:=by intro q iM;have⟨j,b,jI⟩:=Xe lm q iM;exact Fx d (ak (ak (ak (ak (ak jI))))) W aT
   have asj:=t1 (E:=H) (d3:=0) d W;refine oL d bP (vu.app.app.app.app) U fun e1 cF I d cP=>bK d (b7 z.bi) U (⟨asa f1 gm,asj _,?_⟩)
   have Lp:∀ {bL},((((((S++F)++[aa a (aR cJ aA)])++n)++bL)++aw cF I))[(S++F).length+0]?=some (aa a (aR cJ aA)):=ak (ak (ak (al rfl)));refine Z cN (ay (fun h=>?_) (fun h=>?_))
   ·rw[FO h];refine Z cN (Z (dT h) (dn d _ Lp (b7 rfl) (b7 z.bi) (hB i.du) ?_));intro oA d;have k:=B.1 h;have s2:ac oA (((S++(n++aw cF I))++F)++[aa a (aR m aq),aa c (aR m aq)]):=by rw[append_assoc,append_assoc (((S++F)++_)),append_assoc (S++F),Go.Ab.bp]at d;refine d.cf (cO fun p=>?_);show countP p ((S++F)++((aa a (aR m aq))::(n++([aa c (aR m aq)]++aw cF I))))=_;simp[countP_cons];omega
    apply bK s2 (b7 z.bi) U;have hm:=Fu k;subst hm;rw[asi h]at cP;have:=asd k oA cF aq (n++aw cF I) (by rw[<- append_assoc];exact cP.gd.app') (by rw[<- append_assoc];exact(i.app').app) s2.left;exact this
   ·apply Z (dl h);have k:=fun aH=>h (B.2 aH)
    exact dn d _ Lp (b7 rfl) (b7 z.bi) (hB i.du) fun oA d=>gQ d _ (yC Lp) (b7 z.bi) U (sh (Fv k) _ _ _)
  refine an3 z d (BR.app.app.app.app) ((i.app').app) Li U ?_ ?_
  ·intro k e1 l;refine Z f5 (Z f6 (gD .nil aW (fun h=>absurd (B.1 h) k) (fun h=>absurd (B.1 h) k) ?_));show ac e1 (_++[]);rw[append_nil];exact l
  ·intro k e1 fs C l bP;refine Z f5 (Z f6 ?_);have d5:=UO (key:=key) z k;exact gD bP U (fun _=>rfl) (fun _=>rfl) l
 refine aqv d (vu.app.app) asc U J U U ?_ ?_
 ·intro k e1 l;refine Z f5 (Z f6 ?_);have c8:¬dy cJ:=fun h=>by have⟨_,h,_⟩:=h;exact absurd h bT
  exact L p4 df.nil ⟨fun h=>(by cases h),fun h=>absurd h c8⟩ (fun h=>absurd h c8) (fun _=>k) (by rw[append_nil];exact l)
 ·intro k e1 aq l i;refine Z f5 (Z f6 ?_);have Xk:=FA k;unfold mH at Xk;rw[zb]at Xk;exact L (KW J U U U U) i ⟨fun _=>k,fun _=>rfl⟩ (fun _=>rfl) (fun h=>absurd k h) l
end
section
variable[c0:cH]
variable{F H K S}
def o0:LI:=[107,101,121]
def s3:LI:=replicate 100 0
def Lq:fi:=mH jT 3 64 s3
def FP:LI:=pt o0 Lq++s3
def lU(c9:List UInt8):dZ:=⟨4,100,[],[(jT,FP)],[],⟨o0,jT,2,2,10,0,0⟩,⟨1,1,c9,0⟩⟩
theorem Xl:dy Lq:=aqC aqD bT bT bT bT bT bT bT bT
theorem Lr:Lq.br:=KW bT bT bT bT bT
theorem Xm:bM o0:=by intro x a;grind[o0]
theorem Xn:bM s3:=fun x a=>by have:x=0:=eq_of_mem_replicate a;omega
theorem Xo(H:an):(gY P 22 3).f [(0,.int .u8 107),(1,.int .u8 101),(2,.int .u8 121)] H=some (am H.next 0 3 3,H.push (aN o0)):=ao
theorem asl:lD P 22=⟨o4 1 1 [.int .u8 0]⟩:=ao
theorem asm(l:List UInt8)(a:Option Addr)(n c:Nat):(eg P 59).f [(0,a6 l),(1,.slice a n c)]=some (agg [a6 l,.slice a n c]):=ao
theorem asn(l:List UInt8)(a:Option Addr)(n c:Nat)(H:an):(gY P 23 1).f [(0,agg [a6 l,.slice a n c])] H=some (am H.next 0 1 5,H.push [a6 l,.slice a n c]):=ao
theorem aso(a:Option Addr)(n c:Nat):(eg P 26).f [(0,.slice a n c),(1,(.string ⟨#[99,111,114,101]⟩)),(2,(.int .i64 2)),(3,(.int .i64 2)),(4,(.int .i64 10))]=some (agg (jB ⟨o0,jT,2,2,10,0,0⟩ (.slice a n c))):=ao
theorem asp:(eg P 29).f [(0,(.int .i64 1)),(1,(.int .i64 1)),(2,(.string ⟨#[99,111,114,101]⟩))]=some (agg (j8 ⟨1,1,jT,0⟩)):=ao
theorem asq(a b:Option Addr)(n c m d:Nat):(eg P 31).f [(0,(.int .i64 4)),(1,(.int .i64 100)),(3,.slice a n c),(5,agg (jB ⟨o0,jT,2,2,10,0,0⟩ (.slice b m d))),(6,agg (j8 ⟨1,1,jT,0⟩))]=some (agg (h9 (lU jT) aA (.slice a n c) aA (.slice b m d))):=ao
def Ls:dZ:=⟨0,0,[],[],[],⟨[],[],0,0,0,0,0⟩,⟨0,0,[],0⟩⟩
theorem asr:fF P 31=h9 Ls aA aA aA aA:=ao
theorem ass:bM FP:=kP (kP (UL Lr) Ke) Xn
theorem ast:FP.length<=2328:=by grind[UO,Lr,Xl,FP,s3]
theorem asu:fr 100 [.int .u8 0]=aN s3:=ao
theorem asv:(Value.string ⟨#[99,111,114,101]⟩)=a6 jT:=rfl
theorem Xp(a:ac H (S++F))(u:∀E ov kv X,nC (S++X) (lU jT) aA ov aA kv->ac E ((S++X)++F)->K (agg (h9 (lU jT) aA ov aA kv)) E):aG P 26 [] H K:=by
 refine af4.1 ?_;rw[asr];refine b0 a ?_;intro s H a;refine el a (Xo _) ?_;intro bO H a;refine ET a 0 rfl U ?_;rw[asl];refine uR (k:=.i64) (eF:=.i64) (bytes:=1) (n:=100) a U U ?_;intro d H a;rw[asu]at a
 replace a:ac H ((S++[aa bO (aN o0),aa d (aN s3)])++(F++[aa s (h9 Ls aA aA aA aA)])):=
  a.cf (cO fun p=>aT)
 rw[asv];have q:s3.length=100:=length_replicate;refine asb (tS (k:=0) rfl (.inr rfl) rfl) Xm bT (tS (k:=1) rfl (.inr rfl) q) Xn U (.inr ⟨d,0,100,3,S.length+1,_,rfl,al rfl,sD _,.inl rfl⟩) bT bT bT a (fun h=>absurd Xl h) ?_;intro _ H y z X b g a;refine Z (rfl) (Z (rfl) (Z (rfl) ?_));rw[wW];refine b0 a ?_;intro B H a;refine dn a (_+0) (al rfl) (b7 rfl) (b7 Lr.bi) (hB g.du) ?_;intro H a
 replace a:=(a.bp).left
 obtain⟨i,j,l,r⟩:=b.ha;subst r;refine Z (asm _ _ _ _) (el a (asn _ _ _ _ _) ?_);intro c H a;refine el a (Xo _) ?_;intro m H a;refine ET a 0 rfl U (Z (aso _ _ _) (Z asp (Z (asq _ _ _ _ _ _) ?_)));obtain⟨S2,o⟩:∃S2,S2=(S++[aa bO (aN o0),aa d (aN s3)])++X:=⟨_,rfl⟩;rw[<- o]at a b g
 replace a:ac H (((S2++[aa c [a6 jT,.slice i j l],aa m (aN o0)])++F)++[aa s (h9 Ls aA aA aA aA)]):=
  a.cf (cO fun p=>aT)
 have t:nC (S2++[aa c [a6 jT,.slice i j l],aa m (aN o0)]) (lU jT) aA (am c 0 1 5) aA (am m 0 3 3):=by refine⟨bx.nil,(by intro x v;cases v),⟨[[a6 jT,.slice i j l]],.inr ⟨c,5,S2.length+0,true,rfl,al rfl,rfl⟩,Al.cons ⟨_,rfl,b.app,ass⟩ Al.nil⟩,f8.nil,(by intro f w;cases w),tS (k:=1) rfl (.inr rfl) rfl,Xm⟩
 refine dn a (_+0) (al rfl) rfl rfl rfl ?_;intro H a
 replace a:=a.bp
 refine gQ a (_+0) (al rfl) rfl U ?_;subst o;have e:((S++[aa bO (aN o0),aa d (aN s3)])++X)++[aa c [a6 jT,.slice i j l],aa m (aN o0)]=S++(([aa bO (aN o0),aa d (aN s3)]++X)++[aa c [a6 jT,.slice i j l],aa m (aN o0)]):=a1
 rw[e]at t a;exact u H _ _ _ t a.left
end
section
end
end J
