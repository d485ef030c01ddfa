/- texts of the kp, du behind the jV -/
import Derived.Test.YtifflnhooaophaaGreatDoorUN
set_option linter.unusedVariables false
set_option linter.unusedSimpArgs false
set_option linter.unusedSectionVars false
set_option maxHeartbeats 8000000
set_option maxRecDepth 100000
open List Nat
namespace J
open Go Go.Ab
section
variable{A B a b f Gy g i j m nM n s am w aE x y}
namespace V
def off(A:Nat)(b:Int):Nat:=if b=0 then 1 else 1+A
structure lJ (m:bh) (A B:Nat):Prop where
 cq:∃r,m.e3=(0,1)::(1,A)::(1+A,B)::r
 KX:1+A+B<=m.d.cells.length
theorem uc(h:lJ m A B)(a:oV b):m.ek (1+b)/\m.ky (1+b)=(off A b,mI A B b):=by
 have⟨r,e⟩:=h.cq;unfold bh.ek bh.ky;rw[e];rcases a with rfl|rfl
 exact⟨⟨U,aT⟩,rfl⟩;exact⟨⟨U,aT⟩,rfl⟩
theorem w6(h:lJ m A B)(a:oV b):m.size (1+b)=mI A B b:=by unfold bh.size;rw[if_pos (uc h a).1,(uc h a).2]
theorem KY(h:lJ m A B)(a:oV b)(c:y<mI A B b):off A b+y<m.d.cells.length:=by
 have:=h.KX
 grind[mI,off]
theorem KZ(h:lJ m A B)(a:oV b)(d:y<mI A B b):m.gK (1+b) y=(((off A b+y:Nat):Int),0):=by unfold bh.gK;rw[if_neg (fun c=>c (uc h a).1),(uc h a).2,if_neg U];rfl
theorem BH(h:lJ m A B)(a:oV b)(c:y<mI A B b):(m.fg (1+b) y).1=aF m.d (off A b+y):=by unfold bh.fg;rw[KZ h a c,if_neg aW];exact We (KY h a c)
structure nx (w:bG) (n:Nat) (am:Int) (f g:Nat->LI):Prop where
 GK:w.s.mX w.bH
 cr:w.s.b4=am
 ej:w.b4=am
 j5:w.s.j5=1
 b5:w.s.b5=2
 p9:oV am
 kb:lJ w.m n n
 nS:w.m.d.ff=false
 pz:w.m.d.ei=-1
 hx:w.m.d.hx=100
 f:∀i,i<n->aF w.m.d (off n am+i)=f i
 g:∀i,i<n->aF w.m.d (off n (1-am)+i)=g i
theorem nx.part(h:nx w n am f g):w.s.part am=1+am:=by
 unfold dU.part;rcases h.p9 with e|e<;>subst e
 rw[if_neg U,if_pos rfl,h.j5];rfl;rw[if_neg U,if_neg U,h.b5];rfl
theorem nx.size(h:nx w n am f g):w.size=n:=by unfold bG.size;rw[h.ej,h.part,w6 h.kb h.p9,zd]
theorem nx.all(h:nx w n am f g):w.m.all (1+am)=(range n).flatMap f:=by
 have ah:mI n n am=n:=zd;unfold bh.all bh.pn;rw[w6 h.kb h.p9,ah];refine BJ _ fun i a=>?_
 rw[BH h.kb h.p9 a1];exact h.f i (List.mem_range.1 a)
theorem nx.jV(h:nx w n am f g):w.m.all (1+(1-am))=(range n).flatMap g:=by
 have ah:mI n n (1-am)=n:=zd;unfold bh.all bh.pn;rw[w6 h.kb (Fw h.p9),ah];refine BJ _ fun i a=>?_
 rw[BH h.kb (Fw h.p9) a1];exact h.g i (List.mem_range.1 a)
end V
end
section
namespace V
end V
end
section
namespace V
variable{key:LI}{kC:fi}{q:Int×LI}
def Xq(key:LI)(kC:fi)(q:Int×LI):Prop:=if q.1=-1 then(eQ key q.2).2.2≠0 else(q.2.length:Int)≠(gl kC q.1).2
instance:Decidable (Xq key kC q):=by unfold Xq;infer_instance
end V
end
section
namespace V
end V
end
section
namespace V
end V
end
section
variable{K N T b c bz Nl e aau g nw i j k key l kC n az o am t dt}{p:cv}
namespace V
def s4:Nat->Nat->cv->cv
 | _,0,p=>p
 | k,N+1,p=>if p.st=1 then s4 (k+1) N (p.step ((k%3:Nat):Int)).2 else p
theorem asw(h:p.st≠1):∀N k,s4 k N p=p
 | 0,_=>rfl
 | N+1,k=>by simp_all[s4]
theorem asx(h:p.st=1):s4 k (N+1) p=s4 (k+1) N (p.step ((k%3:Nat):Int)).2:=by show(if p.st=1 then _ else _)=_;grind
end V
end
section
namespace V
variable{am:Int}{eW:dZ}
theorem asy(a:1<=eW.bE.ga)(b:oV eW.bE.am):kn.dv eW.bE.ga eW.bE.am=(1,0,⟨eW.bE.ga,eW.bE.am,1,1,1,2⟩):=by unfold dU.dv;rw[if_neg U,if_neg bT];rfl
end V
end
section
variable{A B C N S T X ac1 fv i kv l jr bR az p bv q r s cq aO}{ev:cH}
section
variable[c0:cH]
theorem q5.app(h:q5 S s A B C kv aO cq T):q5 (S++X) s A B C kv aO cq T:=⟨h.kv.app,h.kB,h.jy,h.n3,h.a.app,h.b.app,h.c.app,h.eJ,h.yi,h.ok,h.aO.app,h.a6.app⟩
theorem w9.app(h:w9 S A B bR kv fv l bv ac1 az):w9 (S++X) A B bR kv fv l bv ac1 az:=⟨h.a.app,h.b.app,h.jQ.app,h.az.app,h.ok⟩
theorem n9.app(h:n9 S q p N):n9 (S++X) q p N:=⟨h.oY,h.re.app,h.rf,h.rg,h.pB,h.s,h.m,h.own,h.ny,h.az.app,h.bU,h.d1,h.d2,h.kg,fun a=>⟨(h.dO a).bz.app,(h.dO a).bY.app,(h.dO a).wr.app,(h.dO a).o6,(h.dO a).cY⟩⟩
end
theorem asz(h:dV l i=some r):∃x∈l,x.1=i:=by
 induction l with
 | nil=>cases h
 | cons x bQ a=>
  rw[nc]at h
  grind
theorem mJ.xL(b:∀x∈ev.l,x.1<jr)(h:@mJ ev S bR fv az):@mJ (gP jr r ev) S bR fv az:=by have⟨⟨T,a,c⟩,d,e⟩:=h;refine @mJ.mk (gP jr r ev) _ _ _ _ ⟨T,?_,c⟩ d e;show dV ((jr,r)::ev.l) bR=_;have⟨x,f,g⟩:=asz a;have:=b x f;rw[nc,if_neg U];exact a
theorem n9.xL(d:∀x∈ev.l,x.1<jr)(h:@n9 ev S q p N):@n9 (gP jr r ev) S q p N:=by have e:=h.az.xL (r:=r) d;exact @n9.mk (gP jr r ev) _ _ _ _ h.oY h.re h.rf h.rg h.pB h.s h.m h.own h.ny e h.bU h.d1 h.d2 h.kg fun c=>@WH.mk (gP jr r ev) _ _ _ (h.dO c).bz (@w9.mk (gP jr r ev) _ _ _ _ _ _ _ _ _ _ (h.dO c).bY.a (h.dO c).bY.b (h.dO c).bY.jQ ((h.dO c).bY.az.xL d) (h.dO c).bY.ok) (h.dO c).wr (h.dO c).o6 (h.dO c).cY
def zo:List UInt8:=[109,111,100,101,109]
structure Xr (p:cv):Prop where
 st:p.st=2
 wr:p.w.wr=2
theorem asA(h:(fun p:cv=>(p.st,p.w.wr)) p=(2,2)):Xr p:=by
 injection h with a b
 exact⟨a,b⟩
theorem asB:Xr (V.s4 0 200 (jU (lU jT))):=asA (by kernel_rfl)
theorem asC(h:(fun r:Bool×cv=>(r.1,r.2.st,r.2.gg)) r=(true,3,182)):r.1=true/\r.2.st=3/\r.2.gg=182:=by
 injection h with b a
 injection a with a c
 exact⟨b,a,c⟩
theorem asD:((jU (lU zo)).step 0).1=true/\((jU (lU zo)).step 0).2.st=3/\((jU (lU zo)).step 0).2.gg=182:=asC (by kernel_rfl)
end
section
variable{F H K N eR dF S o1 b2 eJ zp ag kU o b5 ax bO q2 v}
theorem Lt(p:Nat):(cz P .eql 34 true).f (ad p 0) (.pointer none)=some (.bool false):=ao
theorem Lu(p:Nat):(cz P .eql 39 true).f (ad p 0) (.pointer none)=some (.bool false):=ao
theorem Xs(c9:List UInt8)(h:c9.length<=200):(lU c9).h4:=by refine⟨⟨by show(1:Int)<=4;decide,by show(4:Int)<=20;decide⟩,zero_le _,by show 1<=5;decide,zero_le _,by show 3<=200;decide,by show 4<=200;decide,h,?_⟩;intro o a;rw[mem_singleton.1 a];exact⟨by show 4<=200;decide,Nat.le_trans ast bT⟩
inductive zq:cH->cH->Prop
 | rfl (L:cH):zq L L
 | h6 {L bW:cH} {m:Nat} {r:iZ}:zq L bW->(∀x∈bW.l,x.1<m)->zq L (gP m r bW)
structure nA [c0:cH] (H:an) (S F:LB) (bO:iy) (b5:cv) (q2:iy) (ax:cv) (N:Nat):Prop where
 g:cl H S (F++(s0 q2 ax++km q2 ax)) bO b5 N
 r:n9 S q2 ax 30
theorem nA.vv{i:Nat}[c0:cH](h:nA H S F bO b5 q2 ax N)(a:F[i]?=some (aa eJ ag))(b:ag[o]?=some v)(c:K v H):a7 (db (ad eJ o) H) K:=by have⟨⟨ar,R,e,d⟩,_⟩:=h;exact bk d _ (ak (al (ak (ak a)))) b c
theorem nA.kb[c0:cH](h:nA H S F bO b5 q2 ax N)(a:ax.st=1):∃b,cl H S (F++b) q2 ax 30:=by have⟨⟨ar,R,d,c⟩,a⟩:=h;refine⟨R++km bO b5,a,s0 q2 ax,fun _=>rfl,c.cf (cO fun p=>aT)⟩
theorem nA.st[c0:cH](h:nA H S F bO b5 q2 ax N):ac H (S++F):=by have⟨⟨ar,R,b,a⟩,_⟩:=h;refine a.sub (List.Sublist.trans ?_ (sublist_append_left _ _));refine List.Sublist.append_left ?_ S;rw[append_assoc];exact sublist_append_left _ _
theorem asE{i1:Nat}[c0:cH](m:F[i1]?=some (aa zp kU))(n:kU[3]?=some (ad bO.co 0))(h:nA H S F bO b5 q2 ax 30)
  (p:∀E X ex,ex.co=bO.co->nA E (S++X) F ex (V.s4 0 200 b5) q2 ax 230->dF 0 [o1,ad zp 0,b2] E):
  i7 P true 96 IJ 11 [o1,ad zp 0,b2,int 0] H dF eR:=by
 refine afL (fun k f E=>∃(y:Nat) (X:LB) (ex:iy) (c:cv),y<=200/\k=200-y/\f=[o1,ad zp 0,b2,int y]/\ex.co=bO.co/\nA E (S++X) F ex c q2 ax (30+y)/\V.s4 y (200-y) c=V.s4 0 200 b5) _ _ ?_ 200 _ _ ⟨0,[],bO,b5,U,rfl,rfl,rfl,by rw[append_nil];exact h,rfl⟩;rintro k f H ⟨y,X,ex,c,u,rfl,rfl,j,h,a⟩;unfold QS;refine ul ?_;have i:c.st≠1\/y=200->dF 0 [o1,ad zp 0,b2] H:=by
  intro b;have e:c=V.s4 0 200 b5:=by
   rcases b with d|d
   simp_all[V.asw]
   subst d;exact a
  rw[e]at h;exact p H X ex j ⟨h.g.mono U,h.r⟩
 refine cy (fun f E=>f=[o1,ad zp 0,b2,int y]/\E=H/\y<200/\c.st=1) ?_ ?_
 try simp[c1,c2]
 refine Z cV (ay (fun d=>?_) (fun d=>?_));refine ai (h.vv m n ?_);rw[<- j];refine BO h.g (Z cN (Z (dT d) (ay (fun o=>?_) (fun o=>?_))))
 grind
 exact i (.inl o);exact Z (dl d) (cT rfl (i (.inr U)));rintro f E ⟨rfl,rfl,l,b⟩
 try simp only[c1,c2]
 refine ai (h.vv m n (Z (p5 bT) ?_));rw[<- j];refine Lf U h.g fun v q s ah t=>Z (by grind[f2]) (⟨_,U,y+1,X++s,q,_,l,rfl,rfl,ah.co,⟨by rw[<- append_assoc];exact t,by rw[<- append_assoc];exact h.r.app⟩,?_⟩)
 rw[<- a,show 200-y=(200-(y+1))+1 by omega,V.asx b]
end
section
variable{F H K N S fv kv c9 ov p q wv}
theorem Xt(c9:List UInt8):¬((kn.dv (lU c9).bE.ga (lU c9).bE.am).2.1≠0):=by grind[V.asy,lU]
theorem asF(h:nC S (lU jT) wv ov fv kv):nC S (lU c9) wv ov fv kv:=⟨h.dG,h.wT,h.off,h.aK,h.qe,h.key,h.kB⟩
theorem cl.asG[c0:cH](h:cl H S F q p N):ac H (S++F):=by have⟨ar,R,b,a⟩:=h;refine a.sub (List.Sublist.trans ?_ (sublist_append_left _ _));exact List.Sublist.append_left (sublist_append_left _ _) S
theorem asH[c0:cH](a:ac H (S++F))(fD:∀(bW:cH) E X,zq c0 bW->@ac bW E ((S++X)++F)->K (.bool true) E):aG P 10 [] H K:=by
 refine afM.1 ?_;refine Xp a fun H ov kv X hW a=>Xd (Xs jT bT) hW a (fun h=>absurd h (Xt jT)) ?_
 intro _ z H b bO B C f I;have⟨IA,f⟩:=f;have⟨J,R1,L,M⟩:=I;obtain rfl:=L rfl;have m:ac H (((S++X)++B)++(((F++[aa b (kE bO)])++s0 bO (jU (lU jT)))++km bO (jU (lU jT)))):=by rw[<- append_assoc];exact M
 refine Xp m fun H n N ko i a=>b0 a ?_
 intro tr H a;refine dn a (_+0) (al rfl) rfl rfl (by
  have⟨aI,q,_⟩:=i.off;have gH:cS n=true:=by rcases q with⟨rfl,_⟩|⟨p,c,j,w,rfl,_⟩<;>rfl
  show(true&&(true&&(true&&(cS n&&(true&&(jB (lU jT).mK N++j8 (lU jT).bE).all cS)))))=true;rw[gH,all_append,arQ i.key];rfl) ?_
 intro H a
 replace a:=a.bp
 refine Z bj (Z bj (cQ a (_+0) (al rfl) rfl (show 14<16 by decide) rfl ?_));intro H a
 replace a:=a.bp
 refine gQ a (_+0) (al rfl) rfl U (Xd (Xs zo bT) (asF i) a.left (fun h=>absurd h (Xt zo)) ?_);intro _ xb H d q2 ug r e k;have⟨axJ,e⟩:=e;have⟨V,R2,W,zr⟩:=k;obtain rfl:=W rfl;obtain⟨x,l⟩:∃x,x=((((S++X)++B)++ko)++ug):=⟨_,rfl⟩;obtain⟨s,asI⟩:∃s,x=S++s:=⟨((X++B)++ko)++ug,a1⟩;have t:zq c0 xb:=by
  rw[e];have q:zq c0 z:=by rw[f];exact .h6 (.rfl c0) C
  exact .h6 q r
 have h:nA H x ((F++[aa b (kE bO)])++[aa d (kE q2)]) bO (jU (lU jT)) q2 (jU (lU zo)) 30:=by refine⟨⟨?_,s0 bO (jU (lU jT)),fun _=>rfl,?_⟩,?_⟩;rw[l,e];exact n9.xL r (n9.app (c0:=z) (n9.app (c0:=z) J));rw[l];exact zr.cf (cO fun p=>by simp[countP_cons];omega);rw[l];exact V
 rw[asI]at h;have i1:((F++[aa b (kE bO)])++[aa d (kE q2)])[F.length+0]?=some (aa b (kE bO)):=ak (al rfl);have kA:((F++[aa b (kE bO)])++[aa d (kE q2)])[(F++[aa b (kE bO)]).length+0]?=some (aa d (kE q2)):=al rfl;apply cy (fun bN E=>bN=[.bool false,ad b 0,ad d 0]/\E=H) (Z (Lt _) (cT rfl (Z (Lt _) (Z lb (cT rfl (ai (h.vv i1 rfl (Z (Lu _) (Z lb (cT rfl (ai (h.vv kA rfl (Z (Lu _) (Z lb (cT rfl (ai (h.vv i1 rfl (BO h.g (Z dX (Z lb (ix (by show¬((1:Int)≠1);decide) (⟨rfl,rfl⟩))))))))))))))))))))));rintro bN E ⟨rfl,rfl⟩;apply asE i1 rfl h;intro H X ex iM h;have u:=asB;refine ai (h.vv i1 rfl ?_);rw[<- iM];apply BO h.g;rw[u.st];refine Z cN (kf rfl (ai (h.vv i1 rfl ?_)));rw[<- iM];apply WJ h.g;rw[u.wr];refine Z cN (Z (dT rfl) (kf bT (ai (h.vv kA rfl ?_))));have⟨qc,k⟩:=h.kb rfl;have⟨ox,jr,xG⟩:=asD;apply Lf U k;intro H fu FQ ah y;have bY:∀ {o:Nat} {v:Value} {K:VH},(kE q2)[o]?=some v->K v H->a7 (db (ad d o) H) K:=by intro o v K q h2;have⟨_,R,_,a⟩:=y;exact aD a q h2
 refine Z (dT bT) (dz rfl (ai (bY rfl ?_)));rw[<- ah.co];refine BO y (Z cN (Z ja (kf rfl (ai (bY rfl ?_)))));rw[<- ah.co];refine WI y (Z cN (Z (dT rfl) ?_));have a:=y.asG;have:=fD _ H ((s++X)++FQ) t (by apply ac.sub a;rw[show S++((s++X)++FQ)=((S++s)++X)++FQ by grind];refine List.Sublist.append_left ?_ _;rw[append_assoc,append_assoc];exact sublist_append_left _ _);exact this
end
end J
