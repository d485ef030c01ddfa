/- texts of the kp, du behind the jV -/
import Derived.Test.YtifflnhooaophaaGreatDoorUO
set_option linter.unusedVariables false
set_option linter.unusedSimpArgs false
set_option linter.unusedSectionVars false
set_option maxHeartbeats 2000000
set_option maxRecDepth 100000
open List Nat
namespace J
open Go Go.Ab
section
variable{H N S X a acts av b c ag b3 aK i n o b9 cn v}
structure FR where
 k:Int
 n:Int
 aK:List oX
def ri(a:FR)(fv:Value):aj:=[int a.k,int a.n,fv]
def s5(S:LB)(a:FR)(b3:aj):Prop:=∃fv,b3=ri a fv/\f8 S fv a.aK/\∀f∈a.aK,f.v<256
theorem s5.app(h:s5 S a b3):s5 (S++X) a b3:=by have⟨fv,b,c,d⟩:=h;exact⟨fv,b,c.app,d⟩
def RdAcP(S:LB)(v:Value)(acts:List FR):Prop:=∃aI,j3 3 S v acts.length aI.flatten/\Al (s5 S) acts aI
theorem RdAcP.app(h:RdAcP S v acts):RdAcP (S++X) v acts:=by have⟨aI,a,b⟩:=h;exact⟨aI,a.app,b.imp fun _ _=>s5.app⟩
theorem j3.asJ(h:j3 3 S v n ag):Go.Ab.aZ v H=some (int n,H):=by rcases h with⟨rfl,rfl,_⟩|⟨p,c,j,w,rfl,_⟩<;>rfl
theorem RdAcP.aZ(h:RdAcP S v acts):Go.Ab.aZ v H=some (int acts.length,H):=by have⟨aI,a,_⟩:=h;exact a.asJ
theorem RdAcP.get(h:RdAcP S v acts)(b:i<acts.length):∃(p c j:Nat) (w:Bool) (ag:aj) (fv:Value),v=am p 0 acts.length c/\S[j]?=some (p,(⟨ag,w⟩:ef))/\(ag.drop (0+i*3)).take 3=ri acts[i] fv/\f8 S fv acts[i].aK/\∀f∈acts[i].aK,f.v<256:=by
 have⟨aI,d,e⟩:=h;obtain⟨g,⟨fv,rfl,k,l⟩,m⟩:=e.WN (size:=3) (fun a g h=>by obtain⟨fv,rfl,_⟩:=h;rfl) i b;rcases d with⟨_,n,_⟩|⟨p,c,j,w,rfl,o,q⟩
 omega
 grind
theorem Lv(h:gp P (22::cn) N c b):
  ∃v bC b1 b2 ae,c=v::bC/\b=b1++b2/\bx (lK N b1) v ae/\bM ae/\gp P cn (N+b1.length) bC b2:=by
 rcases DU an8 h with⟨bC,a,d⟩|⟨len,e,bC,bs,cA,a,f,l,m,d,i⟩
 exact⟨_,bC,[],b,[],a,rfl,.inl ⟨rfl,rfl⟩,fun x g=>(by cases g),d⟩;obtain⟨j,ae,rfl,rfl,k⟩:=PE Go.Proofs.Tryz.underlying5 _ _ _ _ d;subst j;subst f;exact⟨_,bC,[_],cA,ae,a,rfl,.inr ⟨N,0,_,rfl,.inl rfl,.inr ⟨0,_,rfl,aT⟩⟩,fun x g=>PD (k x g),i⟩
theorem asK:P.underlying 24=some (.slice 61):=ao
theorem asL:P.cellsOf 61=3:=ao
theorem Xu:∀(n N:Nat) (c:aj) (b:List aj),gp P (replicate n 61) N c b->b=[]/\∃aK:List oX,c=ee aK/\aK.length=n/\∀f∈aK,f.v<256
 | 0,N,c,b,h=>by cases h;exact⟨rfl,[],rfl,rfl,aW⟩
 | n+1,N,c,b,h=>by
  have d:=y6 Go.Proofs.Tryz.underlying61 (h);obtain⟨k,l,rfl,aM,e⟩:=oI Go.Proofs.Tryz.underlying3 d;obtain⟨a,m,rfl,ca,g⟩:=oI Go.Proofs.Tryz.underlying3 e;obtain⟨x,o,rfl,i,j⟩:=oI Go.Proofs.Tryz.underlying5 g;obtain⟨rfl,aK,rfl,rfl,p⟩:=Xu n _ _ _ j;have q:=PD i;refine⟨rfl,⟨k,a,x.toNat⟩::aK,?_,rfl,?_⟩;show _=int k::int a::bB .u8 x.toNat::ee aK
  grind
  grind
theorem Xv(h:gp P (24::cn) N c b):
  ∃v bC b1 b2 aK,c=v::bC/\b=b1++b2/\f8 (lK N b1) v aK/\(∀f∈aK,f.v<256)/\gp P cn (N+b1.length) bC b2:=by
 rcases DU asK h with⟨bC,a,d⟩|⟨len,e,bC,bs,cA,a,g,m,i,d,j⟩
 exact⟨_,bC,[],b,[],a,rfl,.inl ⟨rfl,rfl⟩,aW,d⟩;obtain⟨k,aK,rfl,rfl,l⟩:=Xu _ _ _ _ d;subst k;subst g;rw[asL]at a i;refine⟨_,bC,[_],cA,aK,a,rfl,.inr ⟨N,0,6,rfl,.inl rfl,.inr ⟨0,_,rfl,?_⟩⟩,l,j⟩
 grind
theorem Lw:P.underlying 70=some (.slice 72):=ao
theorem asM:P.cellsOf 72=3:=ao
theorem f8.app'(h:f8 S v aK):f8 (X++S) v aK:=by
 rcases h with h|⟨p,o,c,d,e,a|⟨j,b,a,f⟩⟩
 exact .inl h;exact .inr ⟨p,o,c,d,e,.inl a⟩;exact .inr ⟨p,o,c,d,e,.inr ⟨X.length+j,b,al a,f⟩⟩
theorem s5.app'(h:s5 S a b3):s5 (X++S) a b3:=by have⟨fv,b,c,d⟩:=h;exact⟨fv,b,c.app',d⟩
theorem RdAcP.app'(h:RdAcP S v acts):RdAcP (X++S) v acts:=by
 have⟨aI,a,b⟩:=h;refine⟨aI,?_,b.imp fun _ _=>s5.app'⟩;rcases a with h|⟨p,c,j,w,a,b,d⟩
 exact .inl h;exact .inr ⟨p,c,X.length+j,w,a,al b,d⟩
theorem asN:P.underlying 23=some (.slice 59):=ao
theorem asO:P.cellsOf 59=2:=ao
theorem rh.app'(h:rh S o b3):rh (X++S) o b3:=by have⟨cp,a,b,c⟩:=h;exact⟨cp,a,b.app',c⟩
theorem Xw:∀(n N:Nat) (c:aj) (b:List aj),gp P (replicate n 59) N c b->∃(b9:kD) (a:List aj),c=a.flatten/\b9.length=n/\Al (rh (lK N b)) b9 a
 | 0,N,c,b,h=>by cases h;exact⟨[],[],rfl,rfl,.nil⟩
 | n+1,N,c,b,h=>by have g:=y6 Go.Proofs.Tryz.underlying59 (h);obtain⟨e,o,rfl,i⟩:=Kj Go.Proofs.Tryz.underlying9 g;obtain⟨f,p,q,r,ae,rfl,rfl,j,k,l⟩:=Lv i;obtain⟨b9,a,rfl,m,d⟩:=Xw n _ _ _ l;rw[H2];refine⟨(e,ae)::b9,[a6 e,f]::a,rfl,by simp[m],.cons ⟨f,rfl,j.app,k⟩ (d.imp fun _ _ h=>h.app')⟩
theorem asP(h:gp P (23::cn) N c b):
  ∃v bC b1 b2 b9,c=v::bC/\b=b1++b2/\lS (lK N b1) v b9/\gp P cn (N+b1.length) bC b2:=by
 rcases DU asN h with⟨bC,a,d⟩|⟨len,e,bC,bs,cA,a,f,l,j,d,k⟩
 exact⟨_,bC,[],b,[],a,rfl,⟨[],.inl ⟨rfl,rfl,rfl⟩,.nil⟩,d⟩;obtain⟨b9,i,rfl,rfl,g⟩:=Xw _ _ _ _ d;subst f;refine⟨_,bC,_::bs,cA,b9,a,rfl,⟨i,.inr ⟨N,_,0,false,rfl,rfl,?_⟩,?_⟩,by rw[length_cons,show N+_=N+1+bs.length by omega];exact k⟩;rw[j,asO];exact g.imp fun _ _ h=>h.app' (X:=[(N,⟨i.flatten,false⟩)])
theorem lS.app'(h:lS S v b9):lS (X++S) v b9:=by
 have⟨aI,a,b⟩:=h;refine⟨aI,?_,b.imp fun _ _=>rh.app'⟩;rcases a with h|⟨p,c,j,w,a,b,d⟩
 exact .inl h;exact .inr ⟨p,c,X.length+j,w,a,al b,d⟩
theorem axK(h:nT P (31::cn) N av b):
  ∃w wv ov fv kv vs b1 b2,av=agg (h9 w wv ov fv kv)::vs/\b=b1++b2/\nC (lK N b1) w wv ov fv kv/\nT P cn (N+b1.length) vs b2:=by
 obtain⟨ag,vs,b1,b2,rfl,rfl,M,S⟩:=adj h (.inl ⟨_,Go.Proofs.Tryz.underlying31⟩);have V:=y6 Go.Proofs.Tryz.underlying31 M;obtain⟨v,nP,rfl,_,W⟩:=oI Go.Proofs.Tryz.underlying3 V;obtain⟨x,mv,rfl,_,X⟩:=oI Go.Proofs.Tryz.underlying3 W;obtain⟨wv,xT,a,cU,f,rfl,rfl,r1,bO,iL⟩:=Lv X;obtain⟨ov,axL,c,dw,off,rfl,rfl,r2,j0⟩:=asP iL;obtain⟨fv,y5,d,gO,aK,rfl,rfl,eK,fu,t7⟩:=Xv j0;have Bt:=y6 Go.Proofs.Tryz.underlying26 t7;obtain⟨kv,anl,g,kt,i,rfl,rfl,nR,jM,wI⟩:=Lv Bt;obtain⟨y,axM,rfl,j⟩:=Kj Go.Proofs.Tryz.underlying9 wI;obtain⟨z,UD,rfl,_,k⟩:=oI Go.Proofs.Tryz.underlying3 j;obtain⟨B,Un,rfl,_,l⟩:=oI Go.Proofs.Tryz.underlying3 k;obtain⟨C,axN,rfl,_,m⟩:=oI Go.Proofs.Tryz.underlying3 l;obtain⟨F,axO,rfl,_,n⟩:=oI Go.Proofs.Tryz.underlying3 m;obtain⟨H,axP,rfl,_,o⟩:=oI Go.Proofs.Tryz.underlying3 n;have p:=y6 Go.Proofs.Tryz.underlying29 o;obtain⟨I,axQ,rfl,_,q⟩:=oI Go.Proofs.Tryz.underlying3 p;obtain⟨J,axR,rfl,_,r⟩:=oI Go.Proofs.Tryz.underlying3 q;obtain⟨K,axS,rfl,s⟩:=Kj Go.Proofs.Tryz.underlying9 r;obtain⟨L,axT,rfl,t,u⟩:=oI Go.Proofs.Tryz.underlying27 s;obtain⟨rfl,rfl⟩:=PF u;have wi:=(adh t).1;have e:lK N (a++(c++(d++(g++[]))))=lK N a++(lK (N+a.length) c++(lK (N+a.length+c.length) d++(lK (N+a.length+c.length+d.length) g++lK (N+a.length+c.length+d.length+g.length) []))):=by grind[H2]
 refine⟨⟨v,x,f,off,aK,⟨i,y,z,B,C,F,H⟩,I,J,K,L.toNat⟩,wv,ov,fv,kv,vs,_,b2,?_,rfl,⟨by rw[e];exact r1.app,bO,by rw[e];exact r2.app.app',by rw[e];exact(eK.app.app').app',fu,by rw[e];exact((nR.app.app').app').app',jM⟩,S⟩;show _=agg [int v,int x,wv,ov,fv,kv,a6 y,int z,int B,int C,int F,int H,int I,int J,a6 K,.int .u64 ((L.toNat:Nat):Int)]::vs
 grind
end
section
variable[c0:cH]
end
section
namespace V
end V
end
section
variable[c0:cH]
variable{F qc H E K N ub eR dF S kK a acts o1 b1 b2 o8 wb Dc eJ ag fv ga o d7 q ex am v va}{i:Nat}{p:cv}
theorem cl.gb(h:cl H S F q p N)(a:F[i]?=some (aa eJ ag))(b:ag[o]?=some v)(c:K v H):a7 (db (ad eJ o) H) K:=by have⟨ar,R,e,d⟩:=h;exact bk d _ (ak (al (ak a))) b c
theorem cl.rY{c:Nat}(h:cl H S F q p N)(aH:cl E kK qc ex d7 ub)(d:F[i]?=some (aa eJ ag))(a:qc[c]?=some (aa eJ ag))(ah:ag.all dx=true):iP (ik H E) (dM [ad eJ o]):=by have⟨ar,R,j,e⟩:=h;have⟨f,jk,g,b⟩:=aH;exact gw e _ (ak (al (ak d))) b _ (ak (al (ak a))) ah
theorem cl.tmp{c:Value->VH}(h:cl H S F q p N)(d:f8 S fv a.aK)(i:∀e E u,cl E S (F++[aa e (ri a fv)]) q p N->c (ad e 0) u E):iO (fF P 72) H fun e f=>a7 (d9 3 e (agg (ri a fv)) f) fun g h=>c e g h:=by have⟨ar,R,j,b⟩:=h;exact b0 b fun e H b=>dn b (_+0) (al rfl) rfl rfl (by rw[show(ri a fv).all cS=(true&&(true&&(cS fv&&true)))from rfl,d.du];rfl) fun H b=>i e H _ ⟨ar,R,j,b.cf (cO fun p=>aT)⟩
variable{H:an}{S:LB}{F:LB}{K:VH}{q:iy}{N:Nat} in
theorem asQ(h:cl H S F q p N)(a:K (int p.az.bU) H):aG P 31 [ad q.aC 0] H K:=by have⟨ar,R,c,b⟩:=h;refine af9.1 ?_;exact ai (bk b _ (iH (k:=3) rfl) rfl a)
end
section
variable{q:iy}{co:Nat}
theorem asR:(cz P .eql 39 true).f (.pointer none) (.pointer none)=some (.bool true):=ao
theorem asS{q ex:iy}(h:q.en ex):(kE q)[3]?=some (ad ex.co 0):=by rw[h.co];rfl
end
section
variable{q:iy}
theorem Lx(b:Bool):(cz P .neq 4 false).f (.bool b) (.bool b)=some (.bool false):=by cases b<;>kernel_rfl
theorem Ly{q ex:iy}(h:q.en ex):(kE q)[0]?=some (ad ex.L.bn 0):=by rw[h.L.m];rfl
end
section
namespace V
end V
end
section
namespace V
end V
end
section
namespace V
end V
end
section
namespace V
end V
end
section
namespace V
end V
end
section
namespace V
end V
end
section
namespace V
end V
end
section
namespace V
variable{n:Nat}
def nD(n:Nat)(lT eY:Int):Nat:=2*n+200+(max 0 (min lT 100)).toNat*(2*d8 eY+3)
end V
end
section
variable[c0:cH]
end
section
variable{F H K M N S a ac1 cs uh e aK gs c4 i l n az bv q s dt}{p:cv}
namespace V
theorem asT:(hd n l bv ac1 az).2.2.2.2.aK.length<=az.aK.length:=by
 have d:∀ {c:List UInt8} {a b:Int},(az.hD c a b).2.aK.length<=az.aK.length:=by
  intro c a b;unfold hS.hD;split
  simp_all
  grind[hS.next]
 unfold hd
 grind
theorem Lz:(p.iG i uh e cs).2.az=p.az:=by
 unfold cv.iG;simp only;split;show(if uh then _ else _:cv).az=_;grind;split;show(if uh then _ else _:cv).az=_;grind
 grind
theorem asU:(p.step dt).2.az.aK.length<=p.az.aK.length:=by
 unfold cv.step;split
 simp_all
 split;unfold cv.ud;split<;>exact Nat.le_refl _;split;rw[Lb,Lz];exact asT;split;rw[Lc,Lz];exact Nat.le_refl _;split;rw[Ld,Lz];exact Nat.le_refl _
 simp_all
end V
variable[c0:cH]
theorem cl.h6(h:cl H S F q p N)(V:f8 S c4 gs)(d5:∀f∈gs,f.v<256)(gA:p.az.aK.length+gs.length<=1000000)(fD:∀E ex X,q.en ex->cl E (S++X) F ex {p with az:={p.az with aK:=p.az.aK++gs}} N->K (.tuple [].toArray) E):aG P 25 [ad q.aC 0,c4] H K:=by
 have⟨ar,R,g9,l⟩:=h;refine af3.1 ?_;have n:ac H (S++((((F++R)++[aa q.c (q.bz p),aa q.aL (eq p.w.s q.L.bn),aa q.w (q.W.hF p.w),(q.bw,fP p.d.cm p.d.eX q.aF p.d.cb.length),(q.aF,fK p.d.cb),aa q.co (kY q p.w.bH p.st p.gg)])++cR q.L p.w.m)++[aa q.aC (fl q.bR q.fv p.az.bU)])):=
  l.cf (cO fun M=>by simp[km,countP_cons];omega)
 generalize y:(((F++R)++[aa q.c (q.bz p),aa q.aL (eq p.w.s q.L.bn),aa q.w (q.W.hF p.w),(q.bw,fP p.d.cm p.d.eX q.aF p.d.cb.length),(q.aF,fK p.d.cb),aa q.co (kY q p.w.bH p.st p.gg)])++cR q.L p.w.m)=F0 at n;refine ai (aD n rfl ?_);have z:∀ap,((ap=aA/\p.az.aK=[])\/((∃b5 o,ap=am b5 o p.az.aK.length 7)/\f8 S ap p.az.aK))->a7 (dj 3 24 ap c4 H) fun g h=>bD (hI (ad q.aC 0)) fun i=>bD (gh 1 i) fun j=>a7 (d9 1 j g h) fun k m=>K (.tuple [].toArray) m:=by
  intro ap B;refine Wp n B V gA fun E x X l t=>ai ?_
  have C:ac E (((S++F0)++X)++[aa q.aC (fl q.bR q.fv p.az.bU)]):=l.cf (cO fun M=>aT);apply cQ C (_+0) (al rfl) t.du (show 1<3 by omega) rfl;intro I l
  replace l:=l.bp
  replace l:ac I (((S++F0)++X)++[aa q.aC (fl q.bR x p.az.bU)]):=l
  have e:=ar.app (X:=X);have J:∀f∈p.az.aK++gs,f.v<256:=by
   intro f hf;rcases mem_append.1 hf with h|h
   exact ar.az.qe f h
   simp_all
  have u:mJ (S++X) q.bR x {p.az with aK:=p.az.aK++gs}:=⟨e.az.of,t,J⟩;refine fD I {q with fv:=x} X ⟨rfl,rfl,rfl,rfl,.eu⟩ ⟨⟨e.oY,e.re,e.rf,e.rg,e.pB,e.s,e.m,e.own,e.ny,u,e.bU,e.d1,e.d2,e.kg,fun r=>⟨(e.dO r).bz,⟨(e.dO r).bY.a,(e.dO r).bY.b,(e.dO r).bY.jQ,u,(e.dO r).bY.ok⟩,(e.dO r).wr,(e.dO r).o6,(e.dO r).cY⟩⟩,R,g9,?_⟩;show ac I (((S++X)++(F++R))++([aa q.c (q.bz p),aa q.aL (eq p.w.s q.L.bn),aa q.w (q.W.hF p.w),aa q.aC (fl q.bR x p.az.bU),(q.bw,fP p.d.cm p.d.eX q.aF p.d.cb.length),(q.aF,fK p.d.cb),aa q.co (kY q p.w.bH p.st p.gg)]++cR q.L p.w.m));rw[<- y]at l;exact l.cf (cO fun M=>by simp[countP_cons];omega)
 exact aq1 n.left ar.az.aK z
end
section
variable{H N S X av b c g i bc k dR aO t cn v wv x ae}
def FS(S:LB)(v:Value)(ae:LI):Prop:=(v=aA/\ae=[])\/∃(p c j:Nat) (w:Bool),v=am p 0 ae.length c/\S[j]?=some (p,(⟨ae.map (Value.int .i64),w⟩:ef))
theorem FS.app(h:FS S v ae):FS (S++X) v ae:=by
 rcases h with h|⟨p,c,j,w,a,b⟩
 exact .inl h;exact .inr ⟨p,c,j,w,a,ak b⟩
structure u0 where
 oZ:LI
 bz:Nat
 eY:Nat
 lT:Nat
 de:Nat
 LA:Nat
 wr:LI
 bu:LI
 dG:LI
 am:Bool
structure LC (S:LB) (g:u0) (bc wv dR aO:Value):Prop where
 asV:bx S bc g.oZ
 oF:bM g.oZ
 is:1<=g.oZ.length->kV S bc
 asW:FS S wv g.wr
 asX:bx S dR g.bu
 co:bM g.bu
 fm:bx S aO g.dG
 n4:bM g.dG
 bz:g.bz<256
 eY:g.eY<256
 lT:g.lT<256
 de:g.de<65536
 LA:g.LA<65536
theorem LC.app(h:LC S g bc wv dR aO):LC (S++X) g bc wv dR aO:=
 ⟨h.asV.app,h.oF,fun a=>(h.is a).app,h.asW.app,h.asX.app,h.co,h.fm.app,h.n4,h.bz,h.eY,h.lT,h.de,h.LA⟩
end
section
variable[c0:cH]
end
section
variable[c0:cH]
variable{F H K L N S a b eJ c ag aq cs hy aX kv m n p bq q r1 r2 eK au cq aO t v ae ab}{i:Nat}
theorem asY(b:au.br)(e:df ab aO au.aU)(h:cq=.pointer none\/∃st,cq=ad st 0)(g:ab[i]?=some (aa c (ew kv t r1 r2 eK au aO cq cs aX)))(a:ac H ab)
  (o:∀E ap,ac E (ab++aw ap (ec au.aU))->df (aw ap (ec au.aU)) ap au.aU->K (.tuple [agg (aR au ap),.bool (Fi cq)].toArray) E):aG P 71 [ad c 0] H K:=by
 refine ag5.1 ?_;have f:=b7 (aq:=aO) b.bi;refine b0 a fun ax H a=>ai (fe a i (ak g) (aoS b.bi) f U (dA a (fun k H a=>gS a 1 rfl rfl f (hB e.du) ?_)))
 intro H a
 replace a:ac H (ab++[aa ax (aR cJ aA),aa k (aR au aO)]):=a
 refine Z bj (aD a (lv b.bi) (Vo e.app b.dH b.n a (fun H d a l=>Z bj (cQ a (ab.length+1) (ak (al rfl)) l.du U (VD b.bi) ?_))));intro H a;rw[set_append_left _ _ aW,Go.Ab.bp]at a
 replace a:ac H ((ab++[aa ax (aR cJ aA),aa k (aR au d)])++aw d (ec au.aU)):=a
 refine bK a (b7 b.bi) U (ai (bk a i (ak (ak g)) (w1 b.bi) (Z (v:=.bool (Fi cq)) (by rcases h with rfl|⟨st,rfl⟩<;>first|exact apb|rfl) ?_)));have p:=(List.getElem?_eq_some_iff.1 g).1;have m:=J.ac.ve a (j:=ab.length+0) (ak (ak g)) (ak (al rfl)) U;apply dn a (ab.length+0) (ak (al rfl)) ao (b7 b.bi) (hB l.du);intro H a;rw[set_append_left _ _ aW,Go.Ab.bp]at a
 replace a:ac H ((ab++[aa ax (aR au d),aa k (aR au d)])++aw d (ec au.aU)):=a
 refine⟨apc m,?_⟩;refine bK a (b7 b.bi) U (o H d ?_ l);rw[append_assoc]at a;exact sK a
theorem asZ(h:cl H S F q p N)(f:∀E ap,df (aw ap (ec p.c.au.aU)) ap p.c.au.aU->cl E S (F++aw ap (ec p.c.au.aU)) q p N->K (.tuple [agg (aR p.c.au ap),.bool p.c.ah.isSome].toArray) E):aG P 17 [ad q.co 0] H K:=by
 have⟨ar,R,g,b⟩:=h;refine afU.1 ?_;apply b0 b;intro a H b;have i:=iH (S:=S) (F:=F) (R:=R) (k:=6) (x:=(aa q.co (kY q p.w.bH p.st p.gg))) rfl;have j:=iH (S:=S) (F:=F) (R:=R) (k:=0) (x:=(aa q.c (q.bz p))) rfl;refine ai (bk b _ (ak i) rfl (asY ar.oY (ar.re.app.app.app) ar.rf (ak j) b ?_));intro H ap b e;rw[ar.rg];refine Z f5 (Z f6 (dn b (_+0) (ak (al rfl)) ao (b7 ar.oY.bi) (hB e.du) ?_));intro H b;rw[set_append_left _ _ aW,Go.Ab.bp]at b
 replace b:ac H ((((S++(F++R))++km q p)++[aa a (aR p.c.au ap)])++aw ap (ec p.c.au.aU)):=b
 refine bK b (b7 ar.oY.bi) U (f H ap e ⟨ar,R,g,?_⟩);have d:ac H (((S++((F++aw ap (ec p.c.au.aU))++R))++km q p)++[aa a (aR p.c.au ap)]):=
  b.cf (cO fun p=>by simp[countP_cons];omega)
 exact d.left
theorem BT(q:iy)(p:cv):km q p=[aa q.c (q.bz p),aa q.aL (eq p.w.s q.L.bn),aa q.w (q.W.hF p.w),aa q.aC (fl q.bR q.fv p.az.bU),(q.bw,fP p.d.cm p.d.eX q.aF p.d.cb.length),(q.aF,fK p.d.cb),aa q.co (kY q p.w.bH p.st p.gg)]++cR q.L p.w.m:=rfl
theorem cl.all(h:cl H S F q p N)(b:∀E v ag,dm v (p.w.m.all bq) ag->cl E S (F++aw v ag) q p N->K v E):aG P 18 [ad q.L.bn 0,int bq] H K:=by
 have⟨ar,R,c,a⟩:=h;rw[BT,<- append_assoc]at a;refine TN ar.m.ok a fun H v ag a d=>b H v ag d ⟨ar,R,c,?_⟩
 rw[BT];exact a.cf (cO fun p=>by simp[countP_cons];omega)
theorem cl.rQ(h:cl H S F q p N)(b:K (ad q.L.aS 0) H):aG P 22 [ad q.L.bn 0] H K:=by have⟨ar,R,c,a⟩:=h;rw[BT,<- append_assoc]at a;exact alz a b
theorem cl.as0{b:Value->VH}(h:cl H S F q p N)(c:m.bw.length=32)(d:cS aq=true)(i:∀e E u,cl E S (F++[aa e (aR m aq)]) q p N->b (ad e 0) u E):iO (fF P 55) H fun e f=>a7 (d9 37 e (agg (aR m aq)) f) fun g h=>b e g h:=by have⟨ar,R,j,a⟩:=h;exact b0 a fun e H a=>dn a (_+0) (al rfl) rfl (b7 c) (hB d) fun H a=>i e H _ ⟨ar,R,j,a.cf (cO fun p=>aT)⟩
theorem cl.as1(h:cl H S F q p N)(a:F[i]?=some (aa eJ ag))(b:ag.length=n)(c:0<n)(d:K (agg ag) H):a7 (jo n (ad eJ 0) H) K:=by have⟨ar,R,f,e⟩:=h;exact gQ e _ (ak (al (ak a))) b c d
theorem cl.as2(h:cl H S F q p N)(d:a.br)(f:b.br)(i:df (S++F) aq a.aU)(j:df (S++F) hy b.aU)(k:∀E,cl E S F q p N->K (.bool (decide (tW a b))) E):aG P 20 [agg (aR a aq),agg (aR b hy)] H K:=by
 have⟨ar,R,l,g⟩:=h;have e:(S++(F++R))++km q p=(S++F)++(R++km q p):=a1
 rw[e]at g;apply anq d f i.app j.app g;intro E c;rw[<- e]at c;exact k E ⟨ar,R,l,c⟩
theorem cl.a6(h:cl H S F q p N)(b:bx (S++F) v ae)(c:K (yf ae) H):a7 (jD v H) K:=by
 have⟨ar,R,d,a⟩:=h;have e:(S++(F++R))++km q p=(S++F)++(R++km q p):=a1
 rw[e]at a;exact bg (bx.a6 a b.app) c
theorem as3(t:TypeId)(c:Bool)(ae:LI):(cz P .eql t c).f (yf ae) (yf ae)=some (.bool true):=by
 have:(cz P .eql t c).f (yf ae) (yf ae)=some (.bool ((ae.map fun n=>UInt8.ofNat n.toNat)==ae.map fun n=>UInt8.ofNat n.toNat)):=rfl
 simp_all
end
section
end
section
end
section
end
section
variable[c0:cH]
variable{H K a uG si k dg c9 b9 eM v ae ab}
theorem Xx(d:ac H ab)(z:bx ab v ae)(J:ae.length<=1000000)(L:dg<=1000000)(B:tM ab K (hC ae a dg)):aG P 158 [v,int a,int dg] H K:=by
 refine aiG.1 ?_;apply el d (rO _);intro q H d;have g:dm (am q 0 0 3) [] []:=.inr ⟨q,.inr ⟨rfl,rfl⟩,rfl,Nat.le_refl _,rfl⟩;refine Z cV (ay (fun h=>?_) (fun h=>?_))
 ·refine B H _ _ d ?_;unfold hC;rw[if_pos (.inl h)];exact g
 obtain⟨s,rfl⟩:=Int.eq_ofNat_of_zero_le (show 0<=a by omega);refine aiF (fun k l E=>∃(y:Nat) (ap:Value) (ag:aj),y<=ae.length-s/\(y=0\/(y:Int)<=dg)/\k=ae.length-s-y/\l=[v,int dg,aA,ap,int ((s+y:Nat):Int)]/\ac E (ab++aw ap ag)/\dm ap ((ae.drop s).take y) ag) _ _ ?_ (ae.length-s) _ _ ⟨0,am q 0 0 3,[],U,.inl rfl,rfl,rfl,d,by rw[take_zero];exact g⟩;rintro k l H ⟨y,ap,ag,M,C,rfl,rfl,d,f⟩;unfold RW;refine ul ?_;have n:((ae.drop s).take y).length=y:=a1
 have done:¬((((s+y:Nat):Int)<ae.length)/\(y:Int)<dg)->K ap H:=by
  intro N;apply B H ap ag d;unfold hC;by_cases t:((s:Nat):Int)<0\/(ae.length:Int)<=(s:Nat)\/dg<1
  ·rw[if_pos (by exact t)];have:y=0:=U
   subst this;rw[take_zero]at f;exact f
  ·rw[if_neg (by exact t)];obtain⟨m,rfl⟩:=Int.eq_ofNat_of_zero_le (show 0<=dg by omega);have e:((ae.drop s).take y)=(ae.drop s).take m:=by grind[take_of_length_le]
   show dm ap ((ae.drop s).take m) ag;rw[<- e];exact f
 refine cy (fun l E=>l=[v,int dg,aA,ap,int ((s+y:Nat):Int)]/\E=H/\s+y<ae.length/\(y:Int)<dg) ?_ ?_
 ·refine bg z.aZ (Z cV (ay (fun i=>?_) (fun i=>?_)))
  ·apply bg f.aZ;rw[n];refine Z cV (Z (dT i) (ay (fun u=>⟨rfl,rfl,U,u⟩) (fun u=>?_)))
   ·exact done fun h=>u h.2
  ·exact Z (dl i) (cT rfl (done fun h=>i h.1))
 rintro l E ⟨rfl,rfl,i,u⟩
 try simp only[c1,c2]
 obtain⟨p,o,c,j,b,rfl,F,t⟩:=FL z i;refine Z (ez U U) (bk d j (ak F) t (el d (AZ _ _ _) (fun r H d=>rI (bl:=[ae[s+y]]) d f aT rfl (.inr rfl) fun H I w d x=>Z (by grind[f2]) (⟨_,U,y+1,I,w,U,.inr U,rfl,rfl,d,?_⟩))));have e:(ae.drop s).take (y+1)=(ae.drop s).take y++[ae[s+y]]:=by grind[zm]
 rw[e];exact x
def s6:kD->List UInt8->Nat->Int
 | [],_,_=>-1
 | o::r,k,i=>if gu o.1=k then(i:Int)else s6 r k (i+1)
theorem as4{b9:kD}:∀ {y:Nat} (h:y<b9.length),s6 (b9.drop y) k y=if gu b9[y].1=k then(y:Int)else s6 (b9.drop (y+1)) k (y+1):=by intro y h;rw[drop_eq_getElem_cons h];rfl
theorem as5(a b:List UInt8):(cz P .eql 9 false).f (a6 a) (a6 b)=some (.bool (decide (a=b))):=by
 rw[T7]
 grind
theorem Xy{i:Nat}(t:∀o∈b9,o.1.length<=1000)(z:b9.length<=1000)(f:c9.length<=1000000)(n:lS ab v b9)(a:ac H ab)(u:ab[i]?=some (aa eM [v,uG,si]))(q:∀E,ac E ab->K (int (s6 b9 (gu c9) 0)) E):aG P 99 [ad eM 0,a6 c9] H K:=by
 refine ahB.1 ?_;refine ai (bk a i u rfl (bg n.aZ (ahA (fun k r E=>∃y:Nat,y<=b9.length/\k=b9.length-y/\r=[a6 c9,int 0,v,int b9.length,int y]/\ac E ab/\s6 (b9.drop y) (gu c9) y=s6 b9 (gu c9) 0) _ _ ?_ b9.length _ _ ⟨0,zero_le _,rfl,rfl,a,rfl⟩)));rintro k r H ⟨y,B,rfl,rfl,a,d⟩;unfold RC;refine ul ?_
 try simp[c1,c2]
 refine Z cV (ay (fun h=>?_) (fun h=>?_));have b:y<b9.length:=U
 obtain⟨p,c,j,C,ag,F,rfl,w,g,l,x⟩:=n.get b;have I:=t _ (getElem_mem b);rw[as4 b]at d;refine Z (ez U U) (fe a j w g rfl U (b0 a fun eU H a=>dn a (_+0) (al rfl) rfl rfl (by rw[all_cons,all_cons,BQ l];rfl) ?_));intro H a
 replace a:=a.bp
 refine Z bj (bk a (_+0) (al rfl) rfl (Fb U a (fun H a=>Fb f a fun H a=>Z (as5 _ _) (ay (fun m=>?_) (fun m=>?_)))));rw[if_pos m]at d;rw[d];exact q H a.left;rw[if_neg m]at d;exact Z (by grind[f2]) (⟨_,U,y+1,b,rfl,rfl,a.left,d⟩);have e:y=b9.length:=U
 subst e;rw[drop_length]at d;have s:=q H a;rw[<- d]at s;exact s
theorem FT:∀(R:kD) (k:List UInt8) (y:Nat),(qa (R.map fun o=>(gu o.1,o.2)) k=none/\s6 R k y=-1)\/∃(i:Nat) (h:i<R.length),s6 R k y=((y+i:Nat):Int)/\qa (R.map fun o=>(gu o.1,o.2)) k=some R[i].2
 | [],k,y=>.inl ⟨rfl,rfl⟩
 | o::r,k,y=>by
  unfold s6;rw[map_cons];unfold qa;by_cases h:gu o.1=k;rw[if_pos h,if_pos h];exact .inr ⟨0,aW,rfl,rfl⟩;rw[if_neg h,if_neg h];rcases FT r k (y+1)with⟨a,b⟩|⟨i,aB,a,b⟩
  simp_all
  refine .inr ⟨i+1,aT,U,?_⟩
  grind
end
end J
