/- texts of the kp, du behind the jV -/
import Derived.Test.YtifflnhooaophaaGreatDoorUL
set_option linter.unusedVariables false
set_option linter.unusedSimpArgs false
set_option linter.unusedSectionVars false
set_option maxHeartbeats 4000000
set_option maxRecDepth 100000
open List Nat
namespace J
open Go Go.Ab
section
variable[c0:cH]
variable{F H K S ac1 fv nw kv ed zi m bR n aC az bv r1 r2}{l:dL}{a:Int}
theorem cO{α:Type}{pg:List α}{b:List α}(h:∀p:α->Bool,pg.countP p=b.countP p):pg.Perm b:=by
 classical
 rw[perm_iff_count];intro a;exact h (· == a)
theorem Wv(m:fi)(i:Int):0<=(gl m i).1/\(gl m i).1<=65536:=by
 unfold gl;split;omega;rename_i h
 simp_all[Bw]
structure dL.br (l:dL):Prop where
 c9:l.c9.length<=1000000
 left:l.left<=100
 w:-2<=l.cu/\l.cu<=1000
 jQ:∀h m,l.dS=some (h,m)->dy m/\0<=h/\h<=2304/\-2<=l.cu/\l.cu<m.aU.length
 jp:l.dS=none->l.cu=-1\/l.cu=-2
theorem FA(h:dy m):m.aU.length<=64:=by simp_all[dy]
theorem dL.br.aX(h:l.br)(e:Int):({l with aX:=e}:dL).br:=⟨h.c9,h.left,h.w,h.jQ,h.jp⟩
theorem Ww(h:l.br)(d:l.dS=none)(b:a=-1\/a=-2)(c:zi<=100):({l with left:=zi,cu:=a}:dL).br:=
 ⟨h.c9,c,aT,fun g m aH=>a1,fun _=>b⟩
theorem Wx(h:l.br)(b:dy m)(d:0<=nw)(e:nw<=2304)(f:-2<=a/\a<m.aU.length)(c:zi<=100):({l with left:=zi,cu:=a,dS:=some (nw,m)}:dL).br:=by have g:=FA b;exact⟨h.c9,c,aT,fun i j aH=>a1,fun aH=>(by cases aH)⟩
theorem Wy(h:l.br)(b:l.dS=some (nw,m))(c:-2<=a/\a<m.aU.length)(d:zi<=100):({l with left:=zi,cu:=a}:dL).br:=by have⟨e,f,g,_⟩:=h.jQ nw m b;have:=Wx h e f g c d;rw[<- b]at this;exact this
theorem dL.br.try(h:l.br):l.try.2.br:=by unfold dL.try;split;exact h.aX 191;exact⟨h.c9,by have:=h.left;grind,h.w,h.jQ,h.jp⟩
theorem sZ(l:dL):l.dS=none\/∃g m,l.dS=some (g,m):=by
 cases a:l.dS with
 | none=>simp_all
 | some y=>grind
theorem FB(a:l.dS=none):l.on={l with cu:=-2}:=by simp_all[dL.on]
theorem BN(a:l.dS=some (nw,m)):l.on={l with cu:=if l.cu+1=m.aU.length then-2 else l.cu+1}:=by grind[dL.on]
theorem Wz(b:l.dS=none):l.rc a=decide (a=-1):=by simp_all[dL.rc]
theorem K7(b:l.dS=some (nw,m)):l.rc a=decide (0<=a/\a<m.aU.length):=by simp_all[dL.rc]
theorem dL.br.on(h:l.br):l.on.br:=by
 rcases sZ l with a|⟨g,m,a⟩
 rw[FB a];exact Ww h a (.inr rfl) h.left;have⟨b,c,d,e,f⟩:=h.jQ g m a;rw[BN a];refine Wy h a ?_ h.left;omega
theorem dL.br.follow(h:l.br)(s:hn):(l.follow s).br:=by
 unfold dL.follow;split;rename_i a;split;exact h.aX 192;have b:l.rc a=true:=a1
 split;exact h.aX 191;have f:=h.left;rcases sZ l with c|⟨g,m,c⟩
 rw[Wz c]at b;exact Ww h c (.inl (of_decide_eq_true b)) U;rw[K7 c]at b;have b:=of_decide_eq_true b;exact Wy h c U U;rename_i g m;split;exact h.aX 192;rename_i b;rw[not_or,not_or,not_or]at b;have d:=Classical.not_not.1 b.2.1;have i:0<m.aU.length:=by have e:=d.2.2.2.2.2.2.2.2.1;unfold kS at e;have j:=d.2.2.2.1;have k:=d.2.2.2.2.2.1;have:=Int.ediv_nonneg (show 0<=m.cY-1 by omega) (show 0<=m.bz by omega);omega
 exact Wx h d U U U h.left;exact h.aX 192
theorem ara(f:rX S kv l.dS)(e:l.br)(W:l.cu≠-2)(ar:mJ S bR fv az)(z:az.bU<=1000000)(b:ac H ((S++F)++[aa ed (gE aC r1 r2 l kv),aa aC (fl bR fv az.bU)]))
  (u:∀E ap d X,bx (S++X) ap (az.hD l.c9 l.hT.1 l.hT.2).1.1->bM (az.hD l.c9 l.hT.1 l.hT.2).1.1->(az.hD l.c9 l.hT.1 l.hT.2).1.1.length<=10000->((az.hD l.c9 l.hT.1 l.hT.2).1.1≠[]->kV (S++X) ap)->mJ (S++X) bR d (az.hD l.c9 l.hT.1 l.hT.2).2->
   ac E (((S++X)++F)++[aa ed (gE aC r1 r2 l kv),aa aC (fl bR d (az.hD l.c9 l.hT.1 l.hT.2).2.bU)])->K (.tuple [ap,int (az.hD l.c9 l.hT.1 l.hT.2).1.2].toArray) E):aG P 129 [ad ed 0] H K:=by
 refine ah7.1 ?_;have v:∀ {H:an} {a c:Int},l.hT=(a,c)->ac H ((S++F)++[aa ed (gE aC r1 r2 l kv),aa aC (fl bR fv az.bU)])->aG P 187 [ad aC 0,a6 l.c9,int a,int c] H fun i k=>bD (la 0 i) fun n=>bD (la 1 i) fun o=>K (.tuple [n,o].toArray) k:=by intro H a c B b;rw[B]at u;have q:ac H ((S++(F++[aa ed (gE aC r1 r2 l kv)]))++[aa aC (fl bR fv az.bU)]):=b.cf (cO fun p=>a1);exact aq6 ar e.c9 z q fun E ap d X C I J L M N=>Z f5 (Z f6 (u E ap d X C I J L M (N.cf (cO fun p=>a1))))
 refine ai (aD b rfl (Z cN (ay (fun h=>ai (aD b rfl (ai (aD b rfl (v (by simp_all[dL.hT]) b))))) (fun h=>?_))));cases r:l.dS with
 | none=>rcases e.jp r with aH|aH<;>contradiction
 | some y=>have⟨w,m⟩:=y;have⟨b1,b2,o8,_⟩:=e.jQ w m r;rw[r]at f;obtain⟨g,j,V,rfl,x,s,t⟩:=f;refine ai (aD b rfl (ai (fe b j (ak (ak x)) (by show((int w::aR m V).drop 1).take 37=_;rw[drop_one,tail_cons];exact take_of_length_le (by rw[b7 t.bi];omega)) (b7 t.bi) U (ai (aD b rfl (Kq t (s.app.app) b (fun H b=>Z f5 (Z f6 (ai (aD b rfl (ai (aD b rfl (ai (aD b rfl (ai (bk b _ (ak (ak x)) rfl ?_))))))))))))))));have d5:=Wv m l.cu;exact Z (f2 U U) (v (by simp_all[dL.hT]) b)
end
section
variable[c0:cH]
variable{A B F H K S ac1 fv kv l ed bR aC az bv v ae ab}
structure w9 (S:LB) (A B:gI) (bR:Nat) (kv fv:Value) (l:dL) (bv:List (Int×LI)) (ac1:List hn) (az:hS):Prop where
 a:mV S A bv
 b:mW S B ac1
 jQ:rX S kv l.dS
 az:mJ S bR fv az
 ok:l.br
def n8(A B:gI)(ed aC bR:Nat)(kv fv:Value)(l:dL)(bU:Nat):LB:=
 [aa A.q A.ag,aa A.r (cw A.q A.n 2 A.f A.aI.length),aa B.q B.ag,aa B.r (cw B.q B.n 1 B.f B.aI.length),aa ed (gE aC A.r B.r l kv),aa aC (fl bR fv bU)]
theorem WA(a:Int)(p:Option Addr)(n c:Nat):(eg P 179).f [(0,int a),(1,.slice p n c)]=some (agg [int a,.slice p n c]):=ao
theorem bx.fM(h:bx ab v ae):dx v=true:=by rcases h with⟨rfl,_⟩|⟨p,o,c,rfl,_⟩<;>rfl
theorem bx.WB(h:bx ab v ae):cS v=true:=by rcases h with⟨rfl,_⟩|⟨p,o,c,rfl,_⟩<;>rfl
theorem arb(h:w9 S A B bR kv fv l bv ac1 az)(fR:az.bU<=1000000)(b:ac H ((S++F)++n8 A B ed aC bR kv fv l az.bU))
  (d:∀E X hs cZ C c,gI.en A hs->gI.en B cZ->w9 (S++X) hs cZ bR C c (hd A.n l bv ac1 az).2.1 (hd A.n l bv ac1 az).2.2.1 (hd A.n l bv ac1 az).2.2.2.1 (hd A.n l bv ac1 az).2.2.2.2->
   ac E (((S++X)++F)++n8 hs cZ ed aC bR C c (hd A.n l bv ac1 az).2.1 (hd A.n l bv ac1 az).2.2.2.2.bU)->K (.bool (hd A.n l bv ac1 az).1) E):aG P 61 [ad ed 0] H K:=by
 refine agU.1 ?_;obtain⟨y,z,o,V,k⟩:=h;have I:∀ {A B:gI} {kv fv:Value} {l:dL} {bU:Nat},((S++F)++n8 A B ed aC bR kv fv l bU)[(S++F).length+4]?=some (aa ed (gE aC A.r B.r l kv)):=al rfl;have u:ac H ((S++F)++n8 A B ed aC bR kv fv l az.bU)->hd A.n l bv ac1 az=(false,l,bv,ac1,az)->K (.bool false) H:=by intro b e;rw[e]at d;exact d H [] A B kv fv .eu .eu (by rw[append_nil];exact⟨y,z,o,V,k⟩) (by rw[append_nil];exact b)
 refine ai (bk b _ I rfl (Z dX (ay (fun he=>?_) (fun he=>?_))));exact u b (by simp_all[hd]);refine ai (bk b _ I rfl (Vl (i:=3) (j:=2) b rfl rfl bT z.kW ?_ ?_));intro W;have J:ac1=[]:=by
  have:=z.len
  grind
 subst J;refine Z f5 (Z f6 (cT rfl ?_));have u1:=y.len;have K8:=y.kW.sQ;have zh:=y.w2;refine cy (fun bN E=>bN=[ad ed 0]/\E=H/\l.cu≠-2/\bv.length≠A.n) ?_ ?_;refine ai (bk b _ I rfl (Z cN (ay (fun M=>?_) (fun M=>?_))));exact Z (dT M) (dz rfl (u b (by simp_all[hd])));refine ai (bk b _ I rfl (Vg (i:=1) b rfl y.kW.jy K8 (Z cN (Z (dl M) (ay (fun h2=>?_) (fun h2=>?_))))));exact u b (by unfold hd;grind);exact⟨rfl,rfl,M,U⟩;rintro bN E ⟨rfl,rfl,fp,jJ⟩
 try simp only[c1,c2]
 have s:ac E ((S++(F++[aa A.q A.ag,aa A.r (cw A.q A.n 2 A.f A.aI.length),aa B.q B.ag,aa B.r (cw B.q B.n 1 B.f B.aI.length)]))++[aa ed (gE aC A.r B.r l kv),aa aC (fl bR fv az.bU)]):=
  b.cf (cO fun p=>by simp_all[n8])
 refine ara o k fp V fR s ?_;intro H v c X eA fC g3 g4 g5 b
 replace b:ac H (((S++X)++F)++n8 A B ed aC bR kv c l (az.hD l.c9 l.hT.1 l.hT.2).2.bU):=
  b.cf (cO fun p=>by simp_all[n8])
 unfold hd at d;rw[if_neg he]at d;simp only at d;rw[if_neg U]at d;generalize hf:az.hD l.c9 l.hT.1 l.hT.2=r at*;obtain⟨⟨qe,arc⟩,fn⟩:=r;simp only at d eA fC g3 g4 g5 b⊢;have x:∀ {A B:gI} {kv fv:Value} {l:dL} {bU:Nat},(((S++X)++F)++n8 A B ed aC bR kv fv l bU)[((S++X)++F).length+4]?=some (aa ed (gE aC A.r B.r l kv)):=al rfl;refine Z f5 (Z f6 (Z cN (ay (fun M=>?_) (fun M=>?_))));rw[if_pos M]at d;refine ai (bk b _ x rfl (ai (bk b _ x rfl ?_)));obtain⟨av,o6,Fh,z6⟩:=eA.ha;subst z6;refine Z (WA _ _ _ _) (aoq (i:=1) (j:=0) b rfl rfl bT y.kW (bx.fM eA) (bx.WB eA) (fun h2=>absurd h2 U) ?_);intro _ e1 t K9 b;have s:ac e1 (((S++X)++(F++[aa A.q t,aa A.r (cw A.q A.n 2 A.f (A.aI.length+1)),aa B.q B.ag,aa B.r (cw B.q B.n 1 B.f B.aI.length),aa aC (fl bR c fn.bU)]))++[aa ed (gE aC A.r B.r l kv)]):=
  b.cf (cO fun p=>by simp only[n8,set_cons_zero,set_cons_succ,countP_append,countP_cons,countP_nil];omega)
 refine aqV o.app k.w s ?_;intro N b;refine d N X (A.h6 t [int l.cu,.slice av o6 Fh]) B kv c w3 .eu ?_ ?_;refine⟨y.app.h6 K9 ⟨_,rfl,eA,fC,g4⟩ aT,z.app,?_,g5,k.on⟩;rcases sZ l with ey|⟨g,m,ey⟩
 rw[FB ey];exact o.app;rw[BN ey];exact o.app;have L:ac N (((S++X)++F)++[aa A.q t,aa A.r (cw A.q A.n 2 A.f (A.aI.length+1)),aa B.q B.ag,aa B.r (cw B.q B.n 1 B.f B.aI.length),aa ed (gE aC A.r B.r l.on kv),aa aC (fl bR c fn.bU)]):=
  b.cf (cO fun p=>aT)
 rw[<- KA A]at L;exact L;rw[if_neg M]at d;refine Z cN (ay (fun h2=>?_) (fun h2=>?_));rw[if_pos h2]at d;have s:ac H (((S++X)++(F++[aa A.q A.ag,aa A.r (cw A.q A.n 2 A.f A.aI.length),aa B.q B.ag,aa B.r (cw B.q B.n 1 B.f B.aI.length),aa aC (fl bR c fn.bU)]))++[aa ed (gE aC A.r B.r l kv)]):=
  b.cf (cO fun p=>by simp only[n8,countP_append,countP_cons,countP_nil];omega)
 refine Wl (Nat.le_trans k.left U) s ?_;intro N b;refine d N X A B kv c .eu .eu ⟨y.app,z.app,?_,g5,k.try⟩ ?_;unfold dL.try;split<;>exact o.app;exact b.cf (cO fun p=>by simp only[n8,countP_append,countP_cons,countP_nil];omega);rw[if_neg h2]at d;refine ai (cQ b _ x rfl (show 7<8 by omega) rfl ?_);intro N b;rw[Go.Ab.bp]at b;exact d N X A B kv c .eu .eu ⟨y.app,z.app,o.app,g5,k.aX arc⟩ b;intro a aX W e1 t K9 L;cases J:ac1 with
 | nil=>rw[J]at z;have:=z.len;rw[W]at this;simp at this
 | cons aF r=>
  rw[J]at d z;obtain⟨dP,aqh,WC,ard,u1⟩:=z.tail;rw[W]at WC;injection WC with cU dw
  injection cU with cU _
  subst cU dw;unfold hd at d;rw[if_neg he]at d;simp only at d;refine Z f5 (Z f6 (dz rfl ?_));have s:ac e1 ((S++(F++[aa A.q A.ag,aa A.r (cw A.q A.n 2 A.f A.aI.length),aa B.q t,aa B.r (cw B.q B.n 1 ((B.f+1)%B.n) aX.length),aa aC (fl bR fv az.bU)]))++[aa ed (gE aC A.r B.r l kv)]):=
   L.cf (cO fun p=>by simp only[n8,set_cons_zero,set_cons_succ,countP_append,countP_cons,countP_nil];omega)
  refine aqW o (Nat.le_trans k.left U) ard s ?_;intro N C X are b;exact d N X A (B.di t aX) C fv .eu Fj ⟨y.app,⟨K9,u1.imp fun _ _=>rV.app⟩,are,V.app,k.follow aF⟩ (b.cf (cO fun p=>by simp only[n8,gI.di,countP_append,countP_cons,countP_nil];omega))
end
section
variable[c0:cH]
variable{F H K N R S c ag f gg i n p q ex q2 r st t x z ab}{k:Nat}
theorem arf(x:Value)(H:an):(qq P .clear [134]).f [x] H=uq [int 0,aA] x H:=ao
theorem arh(x:Value)(H:an):(qq P .clear [269]).f [x] H=uq [.nilIface] x H:=ao
theorem WD(h:z.all cS=true):∀n,(fr n z).all cS=true
 | 0=>rfl
 | n+1=>by show(gx z (fr n z)).all cS=true;rw[gM,all_append,h,WD h n];rfl
theorem WE(a:ac H ab)(aB:ab[i]?=some (aa q ag))(g:ag.length=n*z.length)(e:z.all cS=true)(b:∀E bI,ac E (ab.set i (aa q bI))->K (.tuple #[]) E):a7 (uq z (am q 0 n c) H) K:=by unfold uq;simp only;by_cases d:beq n 0=true;rw[if_pos d];exact bg rfl (b H ag (by rw[x7 aB];exact a));rw[if_neg d];have⟨E,f,ah⟩:=AF (o:=0) a aB (by rw[CL];omega) (WD e n);rw[f];exact bg rfl (b E _ ah)
theorem ari(a:ac H (ab++[aa q ag,aa r (cw q n 2 f k)]))(b:ag.length=n*2)(c:∀E,ac E ab->K (int k) E):aG P 153 [ad r 0] H K:=by apply aiB;unfold RR;refine ai (aD a rfl (ai (aD a rfl ?_)));rw[arf];apply WE a (i:=ab.length+0) (al rfl) b rfl;intro H d a;rw[Go.Ab.bp]at a;refine ai (cQ a (ab.length+1) (al rfl) rfl (show 1<4 by omega) rfl ?_);intro H a;rw[Go.Ab.bp]at a;refine ai (cQ a (ab.length+1) (al rfl) rfl (show 2<4 by omega) rfl ?_);intro H a;rw[Go.Ab.bp]at a;refine ai (cQ a (ab.length+1) (al rfl) rfl (show 3<4 by omega) rfl ?_);intro H a;rw[Go.Ab.bp]at a;exact c H a.left
theorem WG(a:ac H (ab++[aa q ag,aa r (cw q n 1 f k)]))(b:ag.length=n*1)(c:∀E,ac E ab->K (int k) E):aG P 154 [ad r 0] H K:=by apply aiC;unfold RS;refine ai (aD a rfl (ai (aD a rfl ?_)));rw[arh];apply WE a (i:=ab.length+0) (al rfl) b rfl;intro H d a;rw[Go.Ab.bp]at a;refine ai (cQ a (ab.length+1) (al rfl) rfl (show 1<4 by omega) rfl ?_);intro H a;rw[Go.Ab.bp]at a;refine ai (cQ a (ab.length+1) (al rfl) rfl (show 2<4 by omega) rfl ?_);intro H a;rw[Go.Ab.bp]at a;refine ai (cQ a (ab.length+1) (al rfl) rfl (show 3<4 by omega) rfl ?_);intro H a;rw[Go.Ab.bp]at a;exact c H a.left
structure iy where
 A:gI
 B:gI
 C:gI
 c:Nat
 w:Nat
 aL:Nat
 ed:Nat
 aC:Nat
 bR:Nat
 bw:Nat
 aF:Nat
 co:Nat
 nd:Value
 kv:Value
 fv:Value
 aO:Value
 cq:Value
 zj:Value
 zk:Value
 T:LB
 L:no
def iy.W(q:iy):iF:={A:=q.C,aO:=q.zj,bX:=q.zk,l:=q.aL,c:=q.w,L:=q.L}
def iy.bz(q:iy)(p:cv):aj:=ew q.nd p.c.t q.A.r q.B.r q.C.r p.c.au q.aO q.cq p.c.cs p.c.aX
def kY(q:iy)(ho:Nat)(st gg:Int):aj:=[ad q.aL 0,bB .u64 ho,ad q.A.r 0,ad q.B.r 0,ad q.C.r 0,ad q.ed 0,ad q.c 0,ad q.w 0,ad q.bw 0,int st,int gg]
def km(q:iy)(p:cv):LB:=
 [aa q.c (q.bz p),aa q.aL (eq p.w.s q.L.bn),aa q.w (q.W.hF p.w),aa q.aC (fl q.bR q.fv p.az.bU),(q.bw,fP p.d.cm p.d.eX q.aF p.d.cb.length),(q.aF,fK p.d.cb),aa q.co (kY q p.w.bH p.st p.gg)]++cR q.L p.w.m
def s0(q:iy)(p:cv):LB:=
 [aa q.A.q q.A.ag,aa q.A.r (cw q.A.q q.A.n 2 q.A.f q.A.aI.length),aa q.B.q q.B.ag,aa q.B.r (cw q.B.q q.B.n 1 q.B.f q.B.aI.length),aa q.C.q q.C.ag,aa q.C.r (cw q.C.q q.C.n 1 q.C.f q.C.aI.length),aa q.ed (gE q.aC q.A.r q.B.r p.l q.kv)]++q.T
structure WH (S:LB) (q:iy) (p:cv):Prop where
 bz:q5 S p.c q.A q.B q.C q.nd q.aO q.cq q.T
 bY:w9 S q.A q.B q.bR q.kv q.fv p.l p.c.fJ p.c.ac1 p.az
 wr:ih S {p.w with q:=p.c.gW} q.W
 o6:q.A.n=p.c.aC
 cY:0<=p.w.au.cY
structure n9 (S:LB) (q:iy) (p:cv) (N:Nat):Prop where
 oY:p.c.au.br
 re:df S q.aO p.c.au.aU
 rf:q.cq=.pointer none\/∃st,q.cq=ad st 0
 rg:Fi q.cq=p.c.ah.isSome
 pB:p.w.au.br
 s:p.w.s.br
 m:jz p.w.m
 own:jg q.L p.w.m
 ny:p.w.m.eV N
 az:mJ S q.bR q.fv p.az
 bU:p.az.bU<=N
 d1:p.d.cb.length=3
 d2:∀y∈p.d.cb,0<=y/\y<=p.d.cm
 kg:p.d.cm<=1099511627776
 dO:p.st=1->WH S q p
def cl(H:an)(S F:LB)(q:iy)(p:cv)(N:Nat):Prop:=n9 S q p N/\∃R,(p.st=1->R=s0 q p)/\ac H ((S++(F++R))++km q p)
structure iy.en (q ex:iy):Prop where
 co:ex.co=q.co
 aC:ex.aC=q.aC
 bR:ex.bR=q.bR
 aL:ex.aL=q.aL
 L:q.L.Eq ex.L
theorem iy.en.eu{q:iy}:q.en q:=⟨rfl,rfl,rfl,rfl,.eu⟩
theorem iy.en.trans{q:iy}(h:q.en ex)(aH:ex.en q2):q.en q2:=⟨aH.co.trans h.co,aH.aC.trans h.aC,aH.bR.trans h.bR,aH.aL.trans h.aL,h.L.trans aH.L⟩
theorem iH(h:(km q p)[k]?=some x):((S++(F++R))++km q p)[(S++(F++R)).length+k]?=some x:=al h
theorem BO(h:cl H S F q p N)(a:K (int p.st) H):aG P 15 [ad q.co 0] H K:=by have⟨_,R,_,b⟩:=h;refine afS.1 ?_;exact ai (bk b _ (iH (k:=6) rfl) rfl a)
theorem WI(h:cl H S F q p N)(a:K (int p.gg) H):aG P 19 [ad q.co 0] H K:=by have⟨_,R,_,b⟩:=h;refine afX.1 ?_;exact ai (bk b _ (iH (k:=6) rfl) rfl a)
theorem WJ(h:cl H S F q p N)(b:K (int p.w.wr) H):aG P 21 [ad q.co 0] H K:=by have⟨ar,R,_,a⟩:=h;refine af0.1 ?_;refine ai (bk a _ (iH (k:=6) rfl) rfl ?_);refine ag8.1 ?_;exact ai (bk a _ (iH (k:=2) rfl) (KS ar.pB.bi) b)
theorem arj(h:cl H S F q p N)(b:K (int p.d.vm) H):aG P 28 [ad q.co 0] H K:=by have⟨ar,R,_,a⟩:=h;refine af6.1 ?_;refine ai (bk a _ (iH (k:=6) rfl) rfl ?_);have c:=ar.d1;exact Wg a _ _ (iH (k:=4) rfl) (iH (k:=5) rfl) U U ar.d2 ar.kg b
theorem FC{s:dU}(h:s.br):(s.drop t).br:=by unfold dU.drop;split;exact⟨a1,h.p⟩;exact h
theorem FD(j:st≠1)(h:cl H S F q p N)(o:p.st=1)(t:∀E,cl E S F q (p.im st gg) N->K (.tuple [].toArray) E):aG P 85 [ad q.co 0,int st,int gg] H K:=by
 have⟨ar,R,u,g⟩:=h;obtain rfl:=u o;have k:=ar.dO o;refine ahj.1 ?_;have dJ:∃e,e=(S++F)++(((aa q.ed (gE q.aC q.A.r q.B.r p.l q.kv))::q.T)++([aa q.c (q.bz p),aa q.w (q.W.hF p.w),aa q.aC (fl q.bR q.fv p.az.bU),(q.bw,fP p.d.cm p.d.eX q.aF p.d.cb.length),(q.aF,fK p.d.cb)]++cR q.L p.w.m)):=⟨_,rfl⟩;have⟨e,dJ⟩:=dJ;have i:ac H (e++[aa q.co (kY q p.w.bH p.st p.gg),aa q.aL (eq p.w.s q.L.bn),aa q.A.q q.A.ag,aa q.A.r (cw q.A.q q.A.n 2 q.A.f q.A.aI.length),aa q.B.q q.B.ag,aa q.B.r (cw q.B.q q.B.n 1 q.B.f q.B.aI.length),aa q.C.q q.C.ag,aa q.C.r (cw q.C.q q.C.n 1 q.C.f q.C.aI.length)]):=by rw[dJ];exact g.cf (cO fun p=>by simp[km,s0,countP_cons];omega)
 refine ai (cQ i (e.length+0) (al rfl) rfl (show 9<11 by omega) rfl ?_);intro H g;rw[Go.Ab.bp]at g;refine ai (cQ g (e.length+0) (al rfl) rfl (show 10<11 by omega) (bI:=kY q p.w.bH st gg) rfl ?_);intro H g;rw[Go.Ab.bp]at g;refine ai (bk g (e.length+0) (al rfl) rfl (ai (bk g (e.length+0) (al rfl) rfl ?_)));have i:ac H (((e++[aa q.co (kY q p.w.bH st gg)])++[aa q.aL (eq p.w.s q.L.bn)])++[aa q.A.q q.A.ag,aa q.A.r (cw q.A.q q.A.n 2 q.A.f q.A.aI.length),aa q.B.q q.B.ag,aa q.B.r (cw q.B.q q.B.n 1 q.B.f q.B.aI.length),aa q.C.q q.C.ag,aa q.C.r (cw q.C.q q.C.n 1 q.C.f q.C.aI.length)]):=
  g.cf (cO fun p=>a1)
 refine VP i fun H g=>ai (aD g rfl ?_)
 have i:ac H ((((e++[aa q.co (kY q p.w.bH st gg)])++[aa q.aL (eq (p.w.s.drop p.w.bH) q.L.bn)])++[aa q.B.q q.B.ag,aa q.B.r (cw q.B.q q.B.n 1 q.B.f q.B.aI.length),aa q.C.q q.C.ag,aa q.C.r (cw q.C.q q.C.n 1 q.C.f q.C.aI.length)])++[aa q.A.q q.A.ag,aa q.A.r (cw q.A.q q.A.n 2 q.A.f q.A.aI.length)]):=
  g.cf (cO fun p=>by simp[countP_cons];omega)
 refine ari i k.bz.a.kW.len fun H g=>ai (aD g rfl ?_)
 have i:ac H ((((e++[aa q.co (kY q p.w.bH st gg)])++[aa q.aL (eq (p.w.s.drop p.w.bH) q.L.bn)])++[aa q.C.q q.C.ag,aa q.C.r (cw q.C.q q.C.n 1 q.C.f q.C.aI.length)])++[aa q.B.q q.B.ag,aa q.B.r (cw q.B.q q.B.n 1 q.B.f q.B.aI.length)]):=
  g.cf (cO fun p=>by simp[countP_cons];omega)
 refine WG i k.bz.b.kW.len fun H g=>ai (aD g rfl (WG g k.bz.c.kW.len (fun H g=>t H ⟨⟨ar.oY,ar.re,ar.rf,ar.rg,ar.pB,FC ar.s,ar.m,ar.own,ar.ny,ar.az,ar.bU,ar.d1,ar.d2,ar.kg,fun h=>absurd h j⟩,(aa q.ed (gE q.aC q.A.r q.B.r p.l q.kv))::q.T,fun h=>absurd h j,?_⟩)))
 rw[dJ]at g;exact g.cf (cO fun v=>by show _=countP v ((S++(F++_))++([aa q.c (q.bz p),aa q.aL (eq (p.w.s.drop p.w.bH) q.L.bn),aa q.w (q.W.hF p.w),aa q.aC (fl q.bR q.fv p.az.bU),(q.bw,fP p.d.cm p.d.eX q.aF p.d.cb.length),(q.aF,fK p.d.cb),aa q.co (kY q p.w.bH st gg)]++cR q.L p.w.m));simp[countP_cons];omega)
end
section
variable[c0:cH]
variable{F H K N ub S a iG cs e k cm p q dt}
theorem cl.mono(h:cl H S F q p N)(g:N<=ub):cl H S F q p ub:=by have⟨⟨i,j,k,l,m,n,o,r,s,a,b,c,d,e,f⟩,ar⟩:=h;exact⟨⟨i,j,k,l,m,n,o,r,s.mono g,a,Nat.le_trans b g,c,d,e,f⟩,ar⟩
theorem ark{l:LI}(h:∀y∈l,0<=y/\y<=cm)(a:0<=cm):∀y∈l.set k cm,0<=y/\y<=cm:=aT
theorem WK(h:n9 S q p N):0<=p.d.cm:=by
 have b:=h.d1;have c:=h.d2;cases ah:p.d.cb with
 | nil=>simp_all
 | cons a r=>grind[mem_cons_self]
theorem La(l:dt<3)(h:cl H S F q p N)(n:p.st=1)(a:∀E,cl E S F q (p.iG dt iG e cs).2 N->K (.bool iG) E):aG P 62 [ad q.co 0,int dt,.bool iG,int e,.bool cs] H K:=by
 refine agV.1 ?_;refine cy (fun i E=>i=[ad q.co 0,.bool iG,int e,.bool cs]/\cl E S F q (if iG then {p with d:=p.d.n7 dt}else p) N) ?_ ?_;cases iG with
 | false=>exact cT rfl (⟨rfl,h⟩)
 | true=>apply dz rfl;have⟨ar,R,j,b⟩:=h;refine ai (bk b _ (iH (k:=6) rfl) rfl (aqL b _ _ (iH (k:=4) rfl) (iH (k:=5) rfl) ?_));intro H b;rw[Go.Ab.bp]at b;have o:=ar.d1;rw[if_pos U,Int.toNat_natCast]at b;refine⟨rfl,⟨ar.oY,ar.re,ar.rf,ar.rg,ar.pB,ar.s,ar.m,ar.own,ar.ny,ar.az,ar.bU,by show(p.d.cb.set dt p.d.cm).length=3;simp_all,ark ar.d2 (WK ar),ar.kg,fun h=>⟨(ar.dO h).bz,(ar.dO h).bY,(ar.dO h).wr,(ar.dO h).o6,(ar.dO h).cY⟩⟩,R,j,?_⟩;have e:km q {p with d:=p.d.n7 dt}=[aa q.c (q.bz p),aa q.aL (eq p.w.s q.L.bn),aa q.w (q.W.hF p.w),aa q.aC (fl q.bR q.fv p.az.bU),(q.bw,fP p.d.cm p.d.eX q.aF (p.d.cb.set dt p.d.cm).length),(q.aF,fK (p.d.cb.set dt p.d.cm)),aa q.co (kY q p.w.bH p.st p.gg)]++cR q.L p.w.m:=rfl;rw[if_pos rfl,e,length_set];exact b
 rintro i H ⟨rfl,h⟩;have f:(if iG then {p with d:=p.d.n7 dt}else p:cv).st=1:=aT
 unfold cv.iG at a;simp only at a;refine Z dX (ay (fun g=>?_) (fun g=>?_));rw[if_pos g]at a;exact FD bT h f a;rw[if_neg g]at a;cases cs with
 | true=>exact dz rfl (FD bT h f a)
 | false=>exact cT rfl (a H h)
theorem arl(h:cl H S F q p N)(e:p.st=1)(a:∀E,cl E S F q p.ud.2 N->K (.bool p.ud.1) E):aG P 60 [ad q.co 0] H K:=by refine agT.1 ?_;have aH:=h;have⟨ar,R,g,b⟩:=h;have i:=ar.d1;refine ai (bk b _ (iH (k:=6) rfl) rfl (aqJ b _ _ (iH (k:=4) rfl) (iH (k:=5) rfl) U U ar.d2 ar.kg ?_));unfold cv.ud rd.vm at a;by_cases c:p.d.eX<=p.d.cm-rb p.d.cb;rw[if_pos c]at a⊢;exact Z dX (kf bT (FD bT aH e (fun E f=>Z dX (a E f))));rw[if_neg c]at a⊢;exact Z dX (ix bT (Z dX (a H aH)))
theorem arn(h:cl H S F q p N)(c:∀E,cl E S F q (p.sX a) N->K (.tuple [].toArray) E):aG P 24 [ad q.co 0,int a] H K:=by refine af2.1 ?_;have aH:=h;have⟨ar,R,f,b⟩:=h;refine ai (bk b _ (iH (k:=6) rfl) rfl (Z cN ?_));unfold cv.sX at c;refine ay (fun e=>?_) (fun e=>?_);rw[if_pos e]at c;refine ai (bk b _ (iH (k:=6) rfl) rfl (aqK b _ (iH (k:=4) rfl) (WK ar) ar.kg ?_));intro H b;rw[Go.Ab.bp]at b;have i:=ar.kg;exact c H ⟨⟨ar.oY,ar.re,ar.rf,ar.rg,ar.pB,ar.s,ar.m,ar.own,ar.ny,ar.az,ar.bU,ar.d1,fun y g=>by have:=ar.d2 y g;show 0<=y/\y<=p.d.cm+max 0 (min a (1099511627776-p.d.cm));omega,by show p.d.cm+max 0 (min a (1099511627776-p.d.cm))<=1099511627776;omega,fun h=>⟨(ar.dO h).bz,(ar.dO h).bY,(ar.dO h).wr,(ar.dO h).o6,(ar.dO h).cY⟩⟩,R,f,b⟩;rw[if_neg e]at c;exact c H aH
theorem aro(h:cl H S F q p N)(a:∀E,cl E S F q p.sY.2 N->K (.bool p.sY.1) E):aG P 29 [ad q.co 0] H K:=by refine af7.1 ?_;have aH:=h;have⟨ar,R,d,c⟩:=h;refine ai (bk c _ (iH (k:=6) rfl) rfl (Z dX ?_));unfold cv.sY at a;refine ay (fun b=>?_) (fun b=>?_);rw[if_pos b]at a;exact a H aH;rw[if_neg b]at a;exact FD bT aH U a
end
section
variable[c0:cH]
variable{F H K N S ac1 kv l ed n aC az p bv q r1 r2 ab}
theorem arp{i:Nat}(a:ac H ab)(b:ab[i]?=some (aa ed (gE aC r1 r2 l kv)))(c:K (int l.aX) H):aG P 63 [ad ed 0] H K:=by refine agW.1 ?_;exact ai (bk a i b rfl c)
theorem arq:(hd n l bv ac1 az).2.2.2.2.bU<=az.bU+1:=by
 unfold hd;split
 simp_all
 split
 simp_all
 split
 simp_all
 have h:(az.hD l.c9 l.hT.1 l.hT.2).2.bU<=az.bU+1:=by
  unfold hS.hD
  grind
 grind
def cv.uf(p:cv):cv:=
 {p with l:=(hd p.c.aC p.l p.c.fJ p.c.ac1 p.az).2.1,c:={p.c with fJ:=(hd p.c.aC p.l p.c.fJ p.c.ac1 p.az).2.2.1,ac1:=(hd p.c.aC p.l p.c.fJ p.c.ac1 p.az).2.2.2.1},az:=(hd p.c.aC p.l p.c.fJ p.c.ac1 p.az).2.2.2.2}
theorem Lb(p:cv):p.K2=p.uf.iG 0 (hd p.c.aC p.l p.c.fJ p.c.ac1 p.az).1 p.uf.l.aX false:=ao
theorem ars(q4:N<=1000000)(h:cl H S F q p N)(x:p.st=1)(I:∀E ex X,q.en ex->ex.ed=q.ed->cl E (S++X) F ex p.uf (N+1)->K (.bool (hd p.c.aC p.l p.c.fJ p.c.ac1 p.az).1) E):aG P 61 [ad q.ed 0] H K:=by
 have⟨ar,R,J,o⟩:=h;obtain rfl:=J x;have i:=ar.dO x;have t:ac H ((S++(F++([aa q.C.q q.C.ag,aa q.C.r (cw q.C.q q.C.n 1 q.C.f q.C.aI.length),aa q.c (q.bz p),aa q.aL (eq p.w.s q.L.bn),aa q.w (q.W.hF p.w),(q.bw,fP p.d.cm p.d.eX q.aF p.d.cb.length),(q.aF,fK p.d.cb),aa q.co (kY q p.w.bH p.st p.gg)]++(q.T++cR q.L p.w.m))))++n8 q.A q.B q.ed q.aC q.bR q.kv q.fv p.l p.az.bU):=
  o.cf (cO fun p=>by simp[km,s0,n8,countP_cons];omega)
 have M:=ar.bU;apply arb i.bY U t;rw[i.o6];intro E X hs cZ j k y z g o;have e:=i.bz;have u:=z.n.trans e.eJ;refine I E {q with A:=hs,B:=cZ,kv:=j,fv:=k} X ⟨rfl,rfl,rfl,rfl,.eu⟩ rfl ⟨⟨ar.oY,ar.re.app,ar.rf,ar.rg,ar.pB,ar.s,ar.m,ar.own,ar.ny.mono (le_succ N),g.az,Nat.le_trans arq U,ar.d1,ar.d2,ar.kg,fun _=>⟨⟨e.kv.app,e.kB,e.jy,e.n3,g.a,g.b,e.c.app,u,e.yi,e.ok,e.aO.app,e.a6.app⟩,g,i.wr.app,y.n.trans i.o6,i.cY⟩⟩,_,fun _=>rfl,?_⟩;have⟨art,aru,o6,af,v,aes⟩:=hs;have⟨arv,dD,eJ,bf,ep,bes⟩:=cZ;have⟨V,mP,a3⟩:=y;have⟨b1,b2,o8⟩:=z;subst V mP a3 b1 b2 o8;refine o.cf (cO fun WL=>?_);show _=countP WL (((S++X)++(F++([aa q.A.q v,aa q.A.r (cw q.A.q q.A.n 2 af aes.length),aa q.B.q ep,aa q.B.r (cw q.B.q q.B.n 1 bf bes.length),aa q.C.q q.C.ag,aa q.C.r (cw q.C.q q.C.n 1 q.C.f q.C.aI.length),aa q.ed (gE q.aC q.A.r q.B.r p.uf.l j)]++q.T)))++([aa q.c (q.bz p),aa q.aL (eq p.w.s q.L.bn),aa q.w (q.W.hF p.w),aa q.aC (fl q.bR k p.uf.az.bU),(q.bw,fP p.d.cm p.d.eX q.aF p.d.cb.length),(q.aF,fK p.d.cb),aa q.co (kY q p.w.bH p.st p.gg)]++cR q.L p.w.m));unfold cv.uf;simp[n8,countP_cons];omega
end
section
variable[c0:cH]
variable{F H K N S T bz cs aX ah kv l az b6 p q r1 r2 eK jN au b8 b4 cq bX aO t bH dt dh wr ab}{w:bG}{i:Nat}
def cv.BP(p:cv):cv:={p with c:=p.c.step.2}
def cv.rw(p:cv):Bool×bG:=({p.w with q:=p.c.gW}:bG).step
def cv.zl(p:cv):cv:={p with w:=p.rw.2,c:={p.c with gW:=p.rw.2.q}}
theorem Lc(p:cv):p.gZ=p.BP.iG 1 p.c.step.1 p.BP.c.aX false:=rfl
theorem Ld(p:cv):p.K3=p.zl.iG 2 p.rw.1 p.zl.w.aX (decide (p.zl.w.b8=4)):=rfl
theorem arw(h:t2 S au ah cq T):Fi cq=ah.isSome:=by cases h<;>rfl
theorem arx(h:cl H S F q p N)(v:p.st=1)(M:∀E ex X,q.en ex->ex.c=q.c->cl E (S++X) F ex p.BP N->K (.bool p.c.step.1) E):aG P 64 [ad q.c 0] H K:=by
 have⟨ar,R,V,j⟩:=h;obtain rfl:=V v;have g:=ar.dO v;have k:vl S (F++([aa q.ed (gE q.aC q.A.r q.B.r p.l q.kv),aa q.aL (eq p.w.s q.L.bn),aa q.w (q.W.hF p.w),aa q.aC (fl q.bR q.fv p.az.bU),(q.bw,fP p.d.cm p.d.eX q.aF p.d.cb.length),(q.aF,fK p.d.cb),aa q.co (kY q p.w.bH p.st p.gg)]++cR q.L p.w.m)) p.c q.A q.B q.C q.c q.nd H:=
  ⟨q.aO,q.cq,q.T,g.bz,j.cf (cO fun x=>by simp[km,s0,f7,iy.bz,countP_cons];omega)⟩
 apply apm k;intro E X hs cZ y z I ary k;have⟨i,sp',J,e,j⟩:=k;have f:=g.wr;refine M E {q with A:=hs,B:=cZ,C:=y,aO:=i,cq:=sp',T:=J} X ⟨rfl,rfl,rfl,rfl,.eu⟩ rfl ⟨⟨e.ok,e.aO,e.a6.apd,arw e.a6,ar.pB,ar.s,ar.m,ar.own,ar.ny,ar.az.app,ar.bU,ar.d1,ar.d2,ar.kg,fun _=>⟨e,⟨e.a,e.b,g.bY.jQ.app,g.bY.az.app,g.bY.ok⟩,⟨e.c,f.au,f.aO.app,f.cM.app,f.n4,f.s,f.m,f.own,f.b6,f.wr⟩,?_,g.cY⟩⟩,_,fun _=>rfl,?_⟩;rw[z.n,g.o6,<- g.bz.eJ,<- I.n];exact e.eJ;have⟨art,aru,o6,af,o,aes⟩:=hs;have⟨arv,dD,eJ,bf,ep,bes⟩:=cZ;have⟨arz,cB,yi,mK,u,ces⟩:=y;have⟨i2,mP,a3⟩:=z;have⟨b1,b2,o8⟩:=I;have⟨nP,mv,xT⟩:=ary;subst i2 mP a3 b1 b2 o8 nP mv xT;refine j.cf (cO fun x=>?_);show _=countP x (((S++X)++(F++([aa q.A.q o,aa q.A.r (cw q.A.q q.A.n 2 af aes.length),aa q.B.q ep,aa q.B.r (cw q.B.q q.B.n 1 bf bes.length),aa q.C.q u,aa q.C.r (cw q.C.q q.C.n 1 mK ces.length),aa q.ed (gE q.aC q.A.r q.B.r p.l q.kv)]++J)))++([aa q.c (ew q.nd p.c.step.2.t q.A.r q.B.r q.C.r p.c.step.2.au i sp' p.c.step.2.cs p.c.step.2.aX),aa q.aL (eq p.w.s q.L.bn),aa q.w (q.W.hF p.w),aa q.aC (fl q.bR q.fv p.az.bU),(q.bw,fP p.d.cm p.d.eX q.aF p.d.cb.length),(q.aF,fK p.d.cb),aa q.co (kY q p.w.bH p.st p.gg)]++cR q.L p.w.m));simp[f7,countP_cons];omega
theorem WM:(w.gv az).s=w.s/\(w.gv az).bH=w.bH/\(w.gv az).b4=w.b4/\(w.gv az).m=w.m/\(w.b8≠4->(w.gv az).b8≠4):=by
 unfold bG.gv;by_cases b:w.b8=0
 grind[bG.q8]
 cases az with
 | jj d m=>simp_all
 | kl a=>simp_all
 | body a c=>grind[bG.body]
 | gD=>grind
theorem Le:w.step.2.s=w.s/\w.step.2.bH=w.bH/\w.step.2.b4=w.b4:=by
 unfold bG.step;split
 simp_all
 split;unfold bG.mj;split<;>exact⟨rfl,rfl,rfl⟩;split;unfold bG.py;split;exact⟨rfl,rfl,rfl⟩;split<;>exact⟨rfl,rfl,rfl⟩;split;rename_i x ae _;unfold bG.fill;split<;>exact⟨rfl,rfl,rfl⟩
 grind[WM]
theorem arA(z:N<=1000000)(h:cl H S F q p N)(y:p.st=1)(I:∀E ex X,q.en ex->ex.w=q.w->cl E (S++X) F ex p.zl (N+1)->K (.bool p.rw.1) E):aG P 66 [ad q.w 0] H K:=by
 have⟨ar,R,J,o⟩:=h;obtain rfl:=J y;have g:=ar.dO y;have t:h8 H S (F++([aa q.A.q q.A.ag,aa q.A.r (cw q.A.q q.A.n 2 q.A.f q.A.aI.length),aa q.B.q q.B.ag,aa q.B.r (cw q.B.q q.B.n 1 q.B.f q.B.aI.length),aa q.ed (gE q.aC q.A.r q.B.r p.l q.kv),aa q.c (q.bz p),aa q.aC (fl q.bR q.fv p.az.bU),(q.bw,fP p.d.cm p.d.eX q.aF p.d.cb.length),(q.aF,fK p.d.cb),aa q.co (kY q p.w.bH p.st p.gg)]++q.T)) {p.w with q:=p.c.gW} q.W:=
  o.cf (cO fun k=>by show _=countP k ((((S++_)++[aa q.C.q q.C.ag,aa q.C.r (cw q.C.q q.C.n 1 q.C.f q.C.aI.length),aa q.aL (eq p.w.s q.L.bn),aa q.w (q.W.hF p.w)])++cR q.L p.w.m));simp[km,s0,countP_cons];omega)
 apply aqE g.wr g.cY ar.ny z t;intro E cZ X c7 j u v o;have⟨⟨arz,cB,yi,mK,i,ces⟩,zj,zk,ic,TZ,bW⟩:=cZ;have⟨M,V,o8,wb,Dc,arB⟩:=c7;subst M V o8 wb Dc;have e:=g.bz;have x:p.rw.2.bH=p.w.bH:=Le.2.1;refine I E {q with C:=⟨q.C.q,q.C.r,q.C.n,mK,i,ces⟩,zj:=zj,zk:=zk,L:=bW} X ⟨rfl,rfl,rfl,rfl,arB⟩ rfl ⟨⟨ar.oY,ar.re.app,ar.rf,ar.rg,j.au,j.s,j.m,j.own,v,ar.az.app,by have:=ar.bU;show p.az.bU<=N+1;omega,ar.d1,ar.d2,ar.kg,fun _=>⟨⟨e.kv.app,e.kB,e.jy,e.n3,e.a.app,e.b.app,j.q,e.eJ,e.yi,e.ok,e.aO.app,e.a6.app⟩,⟨e.a.app,e.b.app,g.bY.jQ.app,g.bY.az.app,g.bY.ok⟩,j,g.o6,u⟩⟩,_,fun _=>rfl,?_⟩;refine o.cf (cO fun k=>?_);show countP k ((((S++X)++_)++[aa q.C.q i,aa q.C.r (cw q.C.q q.C.n 1 mK ces.length),aa q.aL (eq p.rw.2.s bW.bn),aa q.w (hp q.aL p.rw.2.bH p.rw.2.b4 q.C.r p.rw.2.au zj p.rw.2.b6 zk p.rw.2.wr p.rw.2.b8 p.rw.2.aX)])++cR bW p.rw.2.m)=countP k (((S++X)++(F++([aa q.A.q q.A.ag,aa q.A.r (cw q.A.q q.A.n 2 q.A.f q.A.aI.length),aa q.B.q q.B.ag,aa q.B.r (cw q.B.q q.B.n 1 q.B.f q.B.aI.length),aa q.C.q i,aa q.C.r (cw q.C.q q.C.n 1 mK ces.length),aa q.ed (gE q.aC q.A.r q.B.r p.l q.kv)]++q.T)))++([aa q.c (q.bz p),aa q.aL (eq p.rw.2.s bW.bn),aa q.w (hp q.aL p.rw.2.bH p.rw.2.b4 q.C.r p.rw.2.au zj p.rw.2.b6 zk p.rw.2.wr p.rw.2.b8 p.rw.2.aX),aa q.aC (fl q.bR q.fv p.az.bU),(q.bw,fP p.d.cm p.d.eX q.aF p.d.cb.length),(q.aF,fK p.d.cb),aa q.co (kY q p.rw.2.bH p.st p.gg)]++cR bW p.rw.2.m))
 rw[x];simp[countP_cons];omega
theorem arC(a:au.bw.length=32)(b:ac H ab)(c:ab[i]?=some (aa bz (ew kv t r1 r2 eK au aO cq cs aX)))(d:K (int aX) H):aG P 65 [ad bz 0] H K:=by refine agY.1 ?_;exact ai (bk b i c (Vw a) d)
theorem arD(a:au.bw.length=32)(b:ac H ab)(c:ab[i]?=some (aa dh (hp l bH b4 jN au aO b6 bX wr b8 aX)))(d:K (int aX) H):aG P 67 [ad dh 0] H K:=by refine ag0.1 ?_;exact ai (bk b i c (Fm a) d)
theorem arE(a:au.bw.length=32)(b:ac H ab)(c:ab[i]?=some (aa dh (hp l bH b4 jN au aO b6 bX wr b8 aX)))(d:K (.bool (decide (b8=4))) H):aG P 68 [ad dh 0] H K:=by refine ag1.1 ?_;refine ai (bk b i c (BD a) (Z cN ?_));rw[decide_eq_decide.2 (show((b8:Int)=4)↔b8=4 by omega)];exact d
theorem arF(q:iy)(ho:Nat)(st gg:Int):(kY q ho st gg).all dx=true:=rfl
theorem Lf(n:N<=1000000)(h:cl H S F q p N)(j:∀E ex X,q.en ex->cl E (S++X) F ex (p.step dt).2 (N+1)->K (.bool (p.step dt).1) E):aG P 14 [ad q.co 0,int dt] H K:=by
 refine afR.1 ?_;have aH:=h;have⟨ar,R,m,b⟩:=h;have a:=fun E h=>j E q [] .eu (by rw[append_nil];exact h)
 refine ai (bk b _ (iH (k:=6) rfl) rfl (Z dX ?_));unfold cv.step at j a;refine ay (fun d=>?_) (fun d=>?_);rw[if_pos d]at a;exact a H (aH.mono (le_succ N));rw[if_neg d]at j a;have d:p.st=1:=U
 refine Z cN (ay (fun c=>?_) (fun c=>?_));rw[if_pos c]at a;exact arl aH d fun E g=>a E (g.mono (le_succ N))
 rw[if_neg c]at j a;refine Z cN (ay (fun c=>?_) (fun c=>?_));subst c;refine ai (bk b _ (iH (k:=6) rfl) rfl (ars n aH d ?_));intro E ex X ah o g;have e:=g;have⟨ar,R,m,b⟩:=g;obtain rfl:=m d;rw[<- ah.co];exact ai (bk b _ (iH (k:=6) rfl) rfl (arp b (i:=((S++X).length+(F.length+6))) (ak (al (al rfl))) (La bT e d fun l f=>j l ex X ah f)));rw[if_neg c]at j a;refine Z cN (ay (fun c=>?_) (fun c=>?_));subst c;refine ai (bk b _ (iH (k:=6) rfl) rfl (arx aH d ?_));intro E ex X ah o g;have e:=g;have⟨ar,R,m,b⟩:=g;rw[<- ah.co];exact ai (bk b _ (iH (k:=6) rfl) rfl (arC ar.oY.bi b (iH (k:=0) rfl) (La bT e d fun l f=>j l ex X ah (f.mono (le_succ N)))));rw[if_neg c]at j a;refine Z cN (ay (fun c=>?_) (fun c=>?_));subst c;refine ai (bk b _ (iH (k:=6) rfl) rfl (arA n aH d ?_));intro E ex X ah o g;have e:=g;have⟨ar,R,m,b⟩:=g;rw[<- ah.co];refine ai (bk b _ (iH (k:=6) rfl) rfl (arD ar.pB.bi b (iH (k:=2) rfl) (ai (bk b _ (iH (k:=6) rfl) rfl (⟨gw b _ (iH (k:=6) rfl) b _ (iH (k:=6) rfl) (arF _ _ _ _),?_⟩)))));exact arE ar.pB.bi b (iH (k:=2) rfl) (La bT e d fun l f=>j l ex X ah f);rw[if_neg c]at a;exact a H (aH.mono (le_succ N))
end
section
section
variable[c0:cH]
variable{H:an}{ab S X R:LB}{v w:Value}{ag b3:aj}{aI:List aj}{r n f i j m:Nat}{b9:kD}
theorem Al.WN{α:Type}{R:α->aj->Prop}{size:Nat}{l:List α}(h:Al R l aI)(e:∀a b3,R a b3->b3.length=size):∀i (c:i<l.length),∃b3,R l[i] b3/\(aI.flatten.drop (i*size)).take size=b3:=by
 induction h with
 | nil=>simp_all
 | @cons a b l m f g d=>
  intro i c;cases i with
  | zero=>grind
  | succ i=>
   have⟨b3,j,k⟩:=d i a1
   grind[drop_drop,drop_left]
theorem j3.arG{size:Nat}(h:j3 size ab v n ag):Go.Ab.aZ v H=some (int n,H):=by rcases h with⟨rfl,rfl,_⟩|⟨p,c,j,w,rfl,_⟩<;>rfl
def rh(S:LB)(o:List UInt8×LI)(b3:aj):Prop:=∃cp,b3=[a6 o.1,cp]/\bx S cp o.2/\bM o.2
theorem rh.app{o:List UInt8×LI}(h:rh S o b3):rh (S++X) o b3:=by have⟨cp,a,b,c⟩:=h;exact⟨cp,a,b.app,c⟩
def lS(S:LB)(v:Value)(b9:kD):Prop:=∃aI,j3 2 S v b9.length aI.flatten/\Al (rh S) b9 aI
theorem lS.app(h:lS S v b9):lS (S++X) v b9:=by have⟨aI,a,b⟩:=h;exact⟨aI,a.app,b.imp fun _ _=>rh.app⟩
theorem lS.aZ(h:lS S v b9):Go.Ab.aZ v H=some (int b9.length,H):=by have⟨aI,a,_⟩:=h;exact a.arG
theorem lS.get(h:lS S v b9)(b:i<b9.length):∃(p c j:Nat) (w:Bool) (ag:aj) (cp:Value),v=am p 0 b9.length c/\S[j]?=some (p,(⟨ag,w⟩:ef))/\(ag.drop (0+i*2)).take 2=[a6 b9[i].1,cp]/\bx S cp b9[i].2/\bM b9[i].2:=by
 have⟨aI,d,e⟩:=h;obtain⟨f,⟨cp,rfl,g,k⟩,l⟩:=e.WN (size:=2) (fun a f h=>by obtain⟨cp,rfl,_⟩:=h;rfl) i b;rcases d with⟨_,m,_⟩|⟨p,c,j,w,rfl,n,o⟩
 omega
 grind
theorem arH:fF P 59=[a6 [],aA]:=ao
theorem arI(bR:Nat)(a:Option Addr)(n c:Nat):(eg P 176).f [(0,uV bR),(1,.slice a n c)]=some (agg [uV bR,.slice a n c,int 0]):=ao
theorem Lg(bR:Nat)(r:iZ)(L:cH):dV (gP bR r L).l bR=some r:=by
 show dV ((bR,r)::L.l) bR=_
 simp_all[nc]
theorem BQ{ae:LI}(h:bx S v ae):cS v=true:=by obtain⟨a,n,c,rfl⟩:=h.ha;rfl
end
variable{H:an}{S F X:LB}{K:VH}{v fv:Value}{ag:aj}{n f j k:Nat}{aK:List oX}{b9:kD}
theorem arJ{ev:cH}{bR aC y:Nat}{T:aj}{off:kD}{N:LN}{K:LX}{L:LN}{S2:LB}(m:f8 S2 fv aK)(n:y<b9.length)(eZ:b9.length<=1000)(M:∀o∈b9,o.1.length<=1000/\o.2.length<=10000)(V:@lS S v b9)(q:@qd (S++X) T off)
  (a:@ac (gP bR (ij T) ev) H (((S++X)++F)++[aa aC (fl bR fv 0)]))
  (z:∀E B C,@qd ((S++X)++C) B (pA off (b9[y]'n))->@ac (gP bR (ij B) ev) E ((((S++X)++C)++F)++[aa aC (fl bR fv 0)])->N [.pointer none,ad aC 0,v,int b9.length,int ((y+1:Nat):Int)] E):
  Ro [.pointer none,ad aC 0,v,int b9.length,int y] H N K L:=by
 letI:cH:=gP bR (ij T) ev
 have⟨eA,fC⟩:=M _ (getElem_mem n);obtain⟨p,c,j,wT,ag,I,rfl,W,r,g,s⟩:=V.get n;refine Z cV (kf U (Z (ez U U) (fe a j (ak (ak (ak W))) r rfl U (b0 a fun eU H a=>dn a (_+0) (al rfl) rfl rfl (by rw[all_cons,all_cons,BQ g];rfl) ?_))));intro H a
 replace a:=a.bp
 replace a:ac H ((((S++X)++F)++[aa aC (fl bR fv 0)])++[aa eU [a6 b9[y].1,I]]):=a
 refine Z bj (aD a rfl (Fc U (ai (aD a rfl ?_))));have d:(cz P .add 3 true).f (int y) (int 1)=some (int ((y+1:Nat):Int)):=by grind[f2]
 have b:pA off b9[y]=off->ac H ((((S++X)++F)++[aa aC (fl bR fv 0)])++[aa eU [a6 b9[y].1,I]])->N [.pointer none,ad aC 0,am p 0 b9.length c,int b9.length,int ((y+1:Nat):Int)] H:=by intro e a;apply z H T [] (by rw[e,append_nil];exact q);rw[append_nil];exact a.left
 rcases q.K5 (gu b9[y].1)with⟨J,l⟩|⟨all,av,J,l,_⟩
 refine Ea a (Lg _ _ _) qf Fz l (Z f5 (Z f6 (cy (fun i E=>i=[.pointer none,ad aC 0,ad eU 0,a6 (gu b9[y].1),am p 0 b9.length c,int b9.length,int y,.bool (decide (nX b9[y].1=0))]/\E=H) (Z fX (dz rfl (Z bj (aD a rfl (Um U (Z cN (Z ja (⟨rfl,rfl⟩)))))))) ?_)));rintro i E ⟨rfl,rfl⟩;refine ay (fun h=>?_) (fun h=>?_);refine ai (aD a rfl (Z bj (aD a rfl (Ey a (g.app.app.app.app) U (fun e1 fs t k u=>⟨jf a k (Wu m),?_⟩)))));have w:=zf k;refine adB w qf l fun oA x=>Z d (z oA _ (aw fs t) ?_ x)
 unfold pA;rw[if_pos ⟨J,h⟩];exact(q.app).h6 u.gd.app' s U;exact Z d (b (by simp_all[pA]) a);refine Ea a (Lg _ _ _) qf Fz l (Z f5 (Z f6 (cy (fun i E=>i=[.pointer none,ad aC 0,ad eU 0,a6 (gu b9[y].1),am p 0 b9.length c,int b9.length,int y,.bool false]/\E=H) (Z fX (cT rfl (Z lb (⟨rfl,rfl⟩)))) ?_)));rintro i E ⟨rfl,rfl⟩;exact cT rfl (Z d (b (by simp_all[pA]) a))
theorem arK[c0:cH]{N:LB}(h:ac H (((S++F)++X)++N)):ac H (((S++X)++F)++N):=h.cf (cO fun p=>aT)
theorem zm{α:Type}{l:List α}{y:Nat}(h:y<l.length):l.take (y+1)=l.take y++[l[y]]:=a1
theorem arL{ev:cH}{g j:Value}(z:∀o∈b9,o.1.length<=1000/\o.2.length<=10000)(B:b9.length<=1000)(u:@lS S g b9)(C:@f8 S j aK)(p:aK.length<=100000)(q:∀f∈aK,f.v<256)
  (d:@ac ev H (S++F)) (I:∀(bW:cH) E bR aC fv X,(∀x∈ev.l,x.1<bR)->(∃T,bW=gP bR (ij T) ev)->@mJ bW (S++X) bR fv ⟨w7 b9,aK,0⟩->@ac bW E (((S++X)++F)++[aa aC (fl bR fv 0)])->K (ad aC 0) E):aG P 58 [g,j] H K:=by
 apply agR;unfold Rp;apply adA d;intro bR H m d
 letI:cH:=gP bR (ij []) ev
 apply aq0 d C p;intro H fv X d b;obtain⟨a,n,c,rfl⟩:=b.ha;refine Z (arI _ _ _ _) (b0 d (fun aC H d=>bg u.aZ ?_))
 replace d:=arK d
 refine agQ (fun k w E=>∃(y:Nat) (T:aj) (i:LB),y<=b9.length/\k=b9.length-y/\w=[.pointer none,ad aC 0,g,int b9.length,int y]/\qd (S++i) T ((b9.take y).foldl pA [])/\f8 (S++i) (.slice a n c) aK/\@ac (gP bR (ij T) ev) E (((S++i)++F)++[aa aC (fl bR (.slice a n c) 0)])) _ _ ?_ b9.length _ _ ⟨0,[],X,zero_le _,rfl,rfl,trivial,b,d⟩;rintro k w H ⟨y,T,i,M,rfl,rfl,r,b,d⟩;by_cases h:y<b9.length;refine arJ b h B z u r d fun E J L s t=>⟨_,U,y+1,J,i++L,h,rfl,rfl,?_,?_,?_⟩
 rw[zm h,foldl_append,<- append_assoc];exact s;rw[<- append_assoc];exact b.app;rw[<- append_assoc];exact t;have e:y=b9.length:=U
 subst e;refine Z cV (ix U ?_);rw[take_length]at r;exact I (gP bR (ij T) ev) H bR aC _ i m ⟨T,rfl⟩ (@mJ.mk (gP bR (ij T) ev) _ _ _ _ ⟨T,Lg _ _ _,r⟩ b q) d
end
end J
