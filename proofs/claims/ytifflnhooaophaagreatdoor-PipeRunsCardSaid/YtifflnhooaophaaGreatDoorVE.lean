/- texts of the kp, du behind the jV -/
import Derived.Test.YtifflnhooaophaaGreatDoorVD
set_option linter.unusedVariables false
set_option linter.unusedSimpArgs false
set_option linter.unusedSectionVars false
set_option maxHeartbeats 8000000
set_option maxRecDepth 100000
open List Nat
namespace J
open Go Go.Ab
variable[c0:cH]
section
variable{A B F H K M N S b3 bZ bc aL m n aF bX aO dh y}{w:bG}
theorem Gc(h:ac H ((((S++F)++A)++B)++N)):ac H (((S++(F++N))++A)++B):=h.cf (cO fun p=>by simp[countP_append];omega)
theorem L5(h:ac H (((S++(F++N))++A)++B)):ac H (((S++F)++A)++B):=h.sub (List.Sublist.append_right (List.Sublist.append_right (List.Sublist.append_left (sublist_append_left _ _) _) _) _)
theorem Yx(h:w.b8=0):w.gv (.jj n m)=w.q8 m:=by unfold bG.gv;rw[if_pos h]
theorem auK(h:w.b8=0)(ah:aF.d6≠2):w.gv aF={w with aX:=192}:=by unfold bG.gv;rw[if_pos h];cases aF<;>first|rfl|exact absurd rfl ah
theorem auL(a:dy m)(b:y<m.aU.length):0<(gl m (y:Int)).2:=by have:=Bw a (i:=(y:Int)) U U;unfold gl;rw[if_neg (by rintro(e|e|e);exact e a;omega;omega)];have c:=a.2.2.2.2.2.1;by_cases e:(y:Int)=(m.aU.length:Int)-1;have:=this.2.2.1 e;omega;have:=this.2.2.2 e;omega
theorem auM{m:fi}(a:m.aU.length<=y):(gl m (y:Int)).2=0:=by unfold gl;rw[if_pos (.inr (.inr U))]
theorem auN(h:nG S w bc aO bX bZ)(u:w.aX=0)(zn:w.cM=[])(ok:w.m.br)(nz:w.m.eV 1000000)(nQ:w.size<=100000)(lh:gX M w.m)(kc:lg S aF b3)(c:ac H (((S++F)++iY dh aL M.bn w bc aO bX bZ)++cW M w.m))
  (J:∀E zB d,nG S (w.gv aF) bc zB d bZ->ac E (((S++F)++iY dh aL M.bn (w.gv aF) bc zB d bZ)++cW M w.m)->K (.tuple [].toArray) E):aG P 172 [ad dh 0,agg b3] H K:=by
 refine aiV.1 ?_;have a2:=h.au.bi;obtain⟨l,x,rfl,y,W,ey,aun⟩:=XK kc;have i:=W.bi;rw[n1];refine b0 c ?_;clear c;intro q H c
 replace c:=Gc c
 have iM:∀ {A B},(((S++(F++[aa q (int aF.d6::int aF.e8::int aF.a2::(aR aF.hi l++[x]))]))++A)++B)[S.length+(F.length+0)]?=some (aa q (int aF.d6::int aF.e8::int aF.a2::(aR aF.hi l++[x]))):=ak (ak (al (al rfl)));have L:(int aF.d6::int aF.e8::int aF.a2::(aR aF.hi l++[x]))[0+40]?=some x:=atA i _ _ _;have X:∀ {H e},w.gv aF={w with aX:=e}->ac H (((S++(F++[aa q (int aF.d6::int aF.e8::int aF.a2::(aR aF.hi l++[x]))]))++iY dh aL M.bn w bc aO bX bZ)++cW M w.m)->bD (hI (ad dh 0)) fun j=>bD (gh 45 j) fun k=>a7 (d9 1 k (.int .i64 e) H) fun m n=>K (.tuple [].toArray) n:=by intro H e he c;rw[he]at J;refine ai (hc c 0 rfl rfl (by rw[oe a2];omega) (bI:=ka aL {w with aX:=e} bc aO bX) (mn a2 rfl 4) ?_);intro H c;exact J H aO bX ⟨h.q,h.au,h.aO,h.cM,h.oc,h.od,h.s,h.c4,h.am,h.r,h.z,h.wr,h.qk,h.pD,h.aF⟩ (L5 c)
 refine ai (dk c 0 rfl (v:=int w.b8) (jm (n:=4) a2 rfl 3) (Z cN (ay (fun o=>?_) (fun o=>?_))));have o:w.b8=0:=U
 refine cy (fun N E=>N=[ad dh 0,ad q 0,.bool (decide (aF.d6≠2\/¬dy aF.hi))]/\ac E (((S++(F++[aa q (int aF.d6::int aF.e8::int aF.a2::(aR aF.hi l++[x]))]))++iY dh aL M.bn w bc aO bX bZ)++cW M w.m)) ?_ ?_;refine Z bj (aD c (v:=int aF.d6) rfl (Z dX (ay (fun g=>?_) (fun g=>?_))));exact Z (dT g) ⟨by simp[g],c⟩;refine Z bj (mg c (ag:=aR aF.hi l) (XL i _ _ _) (b7 i) U ?_);refine wS W y.app.app.app c ?_;clear c;intro H c;refine Z fX (Z (dl g) ⟨?_,c⟩);by_cases g9:dy aF.hi<;>simp[g9,g];clear c;rintro N H ⟨rfl,c⟩
 try simp only[c1,c2]
 refine ay (fun g=>?_) (fun g=>?_);refine X (e:=192) ?_ c;by_cases f:aF.d6=2;rw[Ga f,Yx o];unfold bG.q8;rw[if_pos (g.resolve_left fun e=>e f)];exact auK o f;have f:aF.d6=2:=Classical.byContradiction fun e=>g (.inl e)
 have g9:dy aF.hi:=Classical.byContradiction fun e=>g (.inr e)
 have d5:w.gv aF=if aF.hi.cY>64*(w.size:Int)then {w with aX:=145}else {w with au:=aF.hi,b8:=1,aX:=0}:=by
  conv=>lhs;rw[Ga f]
  rw[Yx o];unfold bG.q8;rw[if_neg (not_not_intro g9)]
 refine Z bj (Z bj (aD c (v:=int aF.hi.cY) rfl ?_));refine Yw h ok nz nQ lh c ?_;intro e1 m2;refine⟨jf c m2 (by rw[all_cons,all_cons,all_cons,all_append,q3 y.mF,all_cons,bx.fM ey];rfl),?_⟩;clear c;have c:=m2;clear m2;refine Z (su U U) (Z go (ay (fun C=>?_) (fun C=>?_)));exact X (e:=145) (by rw[d5,if_pos C]) c;rw[if_neg C]at d5;rw[d5]at J;refine Z bj (mg c (ag:=aR aF.hi l) (XL i _ _ _) (b7 i) U ?_);refine ai (kx c ((S++(F++[(q,_)])).length+0) (ak (al (k:=0) rfl)) (b7 i) (by rw[oe a2];omega) (hB y.du) ?_);clear c;intro H c;have c:ac H (((S++(F++[aa q (int aF.d6::int aF.e8::int aF.a2::(aR aF.hi l++[x]))]))++iY dh aL M.bn {w with au:=aF.hi} bc l bX bZ)++cW M w.m):=by rw[set_append_left _ _ (by unfold iY;simp),Go.Ab.bp]at c;have e:=Yk (A:=[ad aL 0,bB .u64 w.bH,int w.b4,bc]) (v:=aO) (cF:=l) (B:=[int w.b6,bX,int w.wr,int w.b8,int w.aX]) a2 i rfl;have t:ka aL {w with au:=aF.hi} bc l bX=(ka aL w bc aO bX).take (0+4)++(aR aF.hi l++(ka aL w bc aO bX).drop (0+4+37)):=e.symm;unfold iY;rw[t];exact c
 refine ai (hc c 0 rfl rfl (by rw[oe i];omega) (bI:=ka aL {w with au:=aF.hi,b8:=1,aX:=0} bc l bX) (by have:=mn (A:=[ad aL 0,bB .u64 w.bH,int w.b4,bc]) (v:=l) (B:=[int w.b6,bX,int w.wr,int w.b8,int w.aX]) (x:=int 1) i rfl 3;rw[u]at this;show(lV aL w.bH w.b4 bc aF.hi l w.b6 bX w.wr w.b8 w.aX).set (0+44) (int 1)=_;rw[u];exact this) ?_);clear c;intro H c;refine J H l bX ⟨h.q,W,y,h.cM,h.oc,h.od,h.s,h.c4,h.am,fun _=>⟨g9,by rw[show({w with au:=aF.hi,b8:=1,aX:=0}:bG).b6=0 from h.z o];omega⟩,fun e=>absurd e aW,h.wr,aW,fun _=>Int.not_lt.1 C,h.aF⟩ (L5 c);have o:w.b8≠0:=U
 obtain⟨I,Hx⟩:=h.r o;have qM:=FA I;refine ai (fe c _ (ak (al (k:=0) rfl)) (ag:=aR w.au aO) (F8 (n:=4) a2 rfl) (b7 a2) U ?_);refine ai (dk c 0 rfl (v:=int w.b6) (jm (n:=4) a2 rfl 0) ?_);refine Kr h.au h.aO.app.app.app c ?_;clear c;intro H c;refine Z f5 (Z f6 ?_);refine cy (fun N E=>N=[ad dh 0,ad q 0,.bool (decide (aF.d6=3/\aF.e8=w.b6/\w.b6<w.au.aU.length/\(aF.r5.length:Int)=(gl w.au w.b6).2))]/\E=H) ?_ ?_;refine Z bj (aD c (v:=int aF.d6) rfl (Z cN (ay (fun g=>?_) (fun g=>?_))));refine Z bj (aD c (v:=int aF.e8) rfl (ai (dk c 0 rfl (v:=int w.b6) (jm (n:=4) a2 rfl 0) (Z cN (Z (dT g) (ay (fun f=>?_) (fun f=>?_)))))));refine ai (dk c 0 rfl (v:=int w.b6) (jm (n:=4) a2 rfl 0) (ai (Z bj (dk c 0 rfl (v:=aO) (F7 (n:=4) a2 rfl) (bg h.aO.aZ (Z cV (Z (dT f) (ay (fun C=>?_) (fun C=>?_)))))))));refine Z bj (aD c L (bg ey.aZ (Z cN (Z (dT C) ⟨?_,rfl⟩))));rw[decide_eq_decide.2 (show((aF.r5.length:Int)=(gl w.au w.b6).2)↔(aF.d6=3/\aF.e8=w.b6/\w.b6<w.au.aU.length/\(aF.r5.length:Int)=(gl w.au w.b6).2)from⟨fun e=>⟨g,f,U,e⟩,fun e=>e.2.2.2⟩)];refine Z (dl C) ⟨?_,rfl⟩;rw[decide_eq_false (fun e=>C (by have:=e.2.2.1;omega))];refine Z (dl f) (Z (s7 rfl) ⟨?_,rfl⟩);rw[decide_eq_false (fun e=>f e.2.1)];refine Z (dl g) (Z (s7 rfl) (Z (s7 rfl) ⟨?_,rfl⟩))
 rw[decide_eq_false (fun e=>g e.1)];rintro N E ⟨rfl,rfl⟩
 try simp only[c1,c2]
 refine ay (fun g=>?_) (fun g=>?_);obtain⟨ma,L6,jQ,kB⟩:=g;have e:w.gv aF={w with cM:=iq aF.r5,b6:=w.b6+1,aX:=0}:=by
  unfold bG.gv;rw[if_neg o];cases aF with
  | body a bs=>have L6:a=w.b6:=L6;have kB:(bs.length:Int)=(gl w.au w.b6).2:=kB;have:=auL I jQ;show w.body a bs=_;unfold bG.body;rw[L6,if_neg (by rintro(e|e|e);exact e rfl;omega;exact e kB)];rfl
  | kl a=>exact absurd ma (by simp[hn.d6])
  | jj a b=>exact absurd ma (by simp[hn.d6])
  | gD=>exact absurd ma (by simp[hn.d6])
 rw[e]at J;refine Z bj (aD c L ?_);refine auF ey.app.app.app (by have:=L0 w.au w.b6;omega) c ?_;clear c;intro H d c V;have c:ac H (((S++((F++[aa q (int aF.d6::int aF.e8::int aF.a2::(aR aF.hi l++[x]))])++aw d (fk (iq aF.r5))))++iY dh aL M.bn w bc aO bX bZ)++cW M w.m):=Gc c;refine ai (hc c 0 rfl V.kk (by rw[oe a2];omega) (bI:=ka aL w bc aO d) (mn a2 rfl 1) ?_);clear c;intro H c;refine ai (dk c 0 rfl (v:=int w.b6) (jm (n:=4) a2 rfl 0) (Z (v:=int ((w.b6+1:Nat):Int)) (by rw[f2 U U];rfl) ?_));refine ai (hc c 0 rfl rfl (by rw[oe a2];omega) (bI:=ka aL {w with cM:=iq aF.r5,b6:=w.b6+1,aX:=0} bc aO d) (by have:=mn (A:=[ad aL 0,bB .u64 w.bH,int w.b4,bc]) (v:=aO) (B:=[int w.b6,d,int w.wr,int w.b8,int w.aX]) (x:=int ((w.b6+1:Nat):Int)) a2 rfl 0;rw[u]at this;show(lV aL w.bH w.b4 bc w.au aO w.b6 d w.wr w.b8 w.aX).set (0+41) _=_;rw[u];exact this) ?_);clear c;intro H c;refine J H aO d ⟨h.q,h.au,h.aO,V,VQ,h.od,h.s,h.c4,h.am,fun _=>⟨I,jQ⟩,fun e=>absurd e o,h.wr,h.qk,h.pD,by have:=L0 w.au w.b6;show(iq aF.r5).length<=_;rw[Fl];unfold lR;omega⟩ ?_;refine(c.cf (bL:=(((S++F)++([aa dh (ka aL {w with cM:=iq aF.r5,b6:=w.b6+1,aX:=0} bc aO d),aa aL (gJ w.s M.bn)]++(aw bc bZ++aw d (fk (iq aF.r5)))))++cW M w.m)++([aa q (int aF.d6::int aF.e8::int aF.a2::(aR aF.hi l++[x]))]++aw bX (fk w.cM))) (cO fun p=>by unfold iY;simp only[set_cons_zero,cons_append,nil_append,countP_append,countP_cons,countP_nil];omega)).left;refine cy (fun N e1=>N=[ad dh 0,.bool (decide (aF.d6=4/\w.b6=w.au.aU.length))]/\e1=E) ?_ ?_;refine Z bj (aD c (v:=int aF.d6) rfl (Z cN (ay (fun f=>?_) (fun f=>?_))));refine ai (dk c 0 rfl (v:=int w.b6) (jm (n:=4) a2 rfl 0) (ai (Z bj (dk c 0 rfl (v:=aO) (F7 (n:=4) a2 rfl) (bg h.aO.aZ (Z cN (Z (dT f) ⟨?_,rfl⟩)))))));rw[decide_eq_decide.2 (show((w.b6:Int)=(w.au.aU.length:Int))↔(aF.d6=4/\w.b6=w.au.aU.length)from⟨fun e=>⟨f,U⟩,fun e=>by have:=e.2;omega⟩)];refine Z (dl f) ⟨?_,rfl⟩;rw[decide_eq_false (fun e=>f e.1)];rintro N e1 ⟨rfl,rfl⟩
 try simp only[c1,c2]
 refine ay (fun f=>?_) (fun f=>?_);have e:w.gv aF={w with b8:=3}:=by
  unfold bG.gv;rw[if_neg o];cases aF with
  | gD=>show(if w.b6<w.au.aU.length then _ else _)=_;rw[if_neg U]
  | kl a=>exact absurd f.1 (by simp[hn.d6])
  | jj a b=>exact absurd f.1 (by simp[hn.d6])
  | body a b=>exact absurd f.1 (by simp[hn.d6])
 rw[e]at J;refine ai (hc c 0 rfl rfl (by rw[oe a2];omega) (bI:=ka aL {w with b8:=3} bc aO bX) (mn a2 rfl 3) ?_);clear c;intro H c;exact J H aO bX ⟨h.q,h.au,h.aO,h.cM,h.oc,h.od,h.s,h.c4,h.am,fun _=>⟨I,Hx⟩,fun e=>absurd e aW,h.wr,aW,fun _=>h.pD o,h.aF⟩ (L5 c);refine X (e:=192) ?_ c;unfold bG.gv;rw[if_neg o];cases aF with
 | gD=>
  show(if w.b6<w.au.aU.length then _ else _)=_;rw[if_pos (by
   have:¬w.b6=w.au.aU.length:=fun e=>f ⟨rfl,e⟩
   omega)]
 | kl a=>rfl
 | jj a b=>rfl
 | body a bs=>
  show w.body a bs=_;unfold bG.body;rw[if_pos];refine Classical.byContradiction fun e=>g ⟨rfl,?_,?_,?_⟩
  exact Classical.byContradiction fun t=>e (.inl t)
  refine Classical.byContradiction fun t=>e (.inr (.inl ?_))
  have kc:a=(w.b6:Int):=Classical.byContradiction fun t=>e (.inl t)
  rw[kc];exact auM U;have kc:a=(w.b6:Int):=Classical.byContradiction fun t=>e (.inl t)
  rw[kc]at e;exact Classical.byContradiction fun t=>e (.inr (.inr t))
end
section
variable{A B F H K M S aX f bZ bc l aL m r6 n bq r b8 aF bX aO t v dh x ae}{w:bG}
theorem auO{m:bh}{a:bh}(h:a.e3=m.e3):a.size bq=m.size bq:=by cases m;cases a;cases h;rfl
theorem auP{s:dU}(a:∀m:bh,(f m).1.e3=m.e3):(s.as r6 t f).1.size bq=r6.size bq:=by apply auO;unfold dU.as;split;exact a _;rfl
theorem L7(a:∀m:bh,(f m).1.e3=m.e3):({w with m:=(w.s.as w.m w.bH f).1,aX:=aX,b8:=b8}:bG).size=w.size:=auP a
theorem auQ:∀(m:bh) (p q:Int) (x:LI),(m.fh p q x).1.e3=m.e3:=by
 intro m p q x;unfold bh.fh bh.mi
 repeat' split<;>try rfl
theorem nG.mj(h:nG S w bc aO bX bZ)(c:w.b8=1):nG S w.mj bc aO bX bZ:=by
 have a:w.b8≠0:=U
 unfold bG.mj;split;rename_i y _;have b:(w.KP y).size=w.size:=L7 fun m=>at0
 exact⟨h.q,h.au,h.aO,h.cM,h.oc,h.od,h.s,h.c4,h.am,h.r,h.z,h.wr,h.qk,fun _=>by rw[b];exact h.pD a,h.aF⟩;exact⟨h.q,h.au,h.aO,h.cM,h.oc,h.od,h.s,h.c4,h.am,fun _=>h.r a,fun e=>absurd e aW,h.wr,aW,fun _=>h.pD a,h.aF⟩
theorem auR(a:A.length=n):(A++(aR m v++B))[0+n+2]?=some (int m.cY):=by rw[Nat.zero_add,getElem?_append_right U,a,show n+2-n=2 by omega];rfl
theorem auS(b:m.bw.length=32)(a:A.length=n):((A++(aR m v++B)).drop (0+n+4)).take 32=aN m.bw:=by
 rw[Nat.zero_add,<- drop_drop,drop_left' a];unfold aR
 simp_all
theorem L8(h:nG S w bc aO bX bZ):(ka aL w bc aO bX).all dx=true:=by
 have b:∀ {a n:Nat} {v:Value} {ag:aj},dK a v n ag->dx v=true:=by intro a n v ag h;rcases h with⟨rfl,_⟩|⟨p,rfl|rfl,_⟩<;>rfl
 show(dx (ad aL 0)&&(dx (bB .u64 w.bH)&&(dx (int w.b4)&&(dx bc&&(aR w.au aO++[int w.b6,bX,int w.wr,int w.b8,int w.aX]).all dx))))=true;rw[b h.q.own,all_append,q3 h.aO.mF];show(true&&(true&&(true&&(true&&(true&&(true&&(dx bX&&true)))))))=true;rw[b h.cM];rfl
theorem auT{K:VH}(h:nG S w bc aO bX bZ)(hg:w.b8=3)(ok:jz w.m)(nz:w.m.eV 999999)(nQ:w.size<=100000)(lh:gX M w.m)(a:ac H (((S++F)++iY dh aL M.bn w bc aO bX bZ)++cW M w.m))
  (fD:∀E cL,M.Eq cL->nG S w.py bc aO bX bZ->gX cL w.py.m->ac E (((S++F)++iY dh aL cL.bn w.py bc aO bX bZ)++cW cL w.py.m)->K (.bool true) E):
  bD (hI (ad dh 0)) fun n=>
  bD (gh 0 n) fun o=>
  a7 (db o H) fun p q=>
  bD (hI (ad dh 0)) fun r=>
  bD (gh 1 r) fun s=>
  a7 (db s q) fun t u=>
  aG P 170 [p,t] u fun v w=>
  bD (hI (ad dh 0)) fun x=>
  bD (gh 45 x) fun y=>
  a7 (d9 1 y v w) fun z A=>
  bD (hI (ad dh 0)) fun B=>
  bD (gh 45 B) fun C=>
  a7 (db C A) fun D c=>
  bD ((cz P .neq 3 true).f D (.int .i64 0)) fun F=>
  fW F (
  K (.bool true) c) (
  bD (hI (ad dh 0)) fun G=>
  bD (gh 0 G) fun I=>
  a7 (db I c) fun J L=>
  bD (hI (ad dh 0)) fun M=>
  bD (gh 2 M) fun d=>
  a7 (db d L) fun Q R=>
  aG P 101 [J,Q] R fun S T=>
  bD (hI (ad dh 0)) fun g=>
  bD (gh 4 g) fun V=>
  bD (gh 2 V) fun W=>
  a7 (db W T) fun X Y=>
  iP (ik R T) (dM [W])/\(bD (hX 1 S none (some X) none) fun i=>
  aG P 35 [i] Y fun a0 i2=>
  bD (hI (ad dh 0)) fun mP=>
  bD (gh 4 mP) fun a3=>
  bD (gh 4 a3) fun a4=>
  a7 (jo 32 a4 i2) fun a5 Iq=>
  iP (ik Y i2) (dM [a4])/\(iP (ik R T) (dM [a4])/\(bD ((cz P .eql 51 false).f a0 a5) fun auU=>
  fW auU (
  bD (hI (ad dh 0)) fun L9=>
  bD (gh 44 L9) fun a9=>
  a7 (d9 1 a9 (.int .i64 4) Iq) fun o1 b1=>
  K (.bool true) b1) (
  bD (hI (ad dh 0)) fun L9=>
  bD (gh 45 L9) fun a9=>
  a7 (d9 1 a9 (.int .i64 153) Iq) fun o1 b1=>
  K (.bool true) b1))))):=by
 have a2:=h.au.bi;have c8:w.b8≠0:=U
 have Qw:=L8 (aL:=aL) h;refine ai (dk a 0 rfl rfl (ai (dk a 0 rfl rfl ?_)));refine at9 h.c4 ok.ok ⟨by have:=nz.1;omega,by have:=nz.2;omega⟩ lh a (al (k:=1) rfl) ?_;clear a;intro H cL a he l;have N:w.ig.size=w.size:=L7 fun m=>rfl
 refine ai (hc a 0 rfl rfl (by rw[oe a2];omega) (mn a2 rfl 4) ?_);clear a;intro H a;have a:ac H (((S++F)++iY dh aL cL.bn w.ig bc aO bX bZ)++cW cL w.ig.m):=by rw[he.m];exact a
 have h1:nG S w.ig bc aO bX bZ:=⟨h.q,h.au,h.aO,h.cM,h.oc,h.od,h.s,h.c4,h.am,h.r,h.z,h.wr,h.qk,fun _=>by rw[N];exact h.pD c8,h.aF⟩;unfold bG.py at fD;refine ai (dk a 0 rfl (jm a2 rfl 4) (Z dX (ay (fun h2=>?_) (fun h2=>?_))))
 ·rw[if_pos h2]at fD;exact fD H cL he h1 l a
 rw[if_neg h2]at fD;have Yy:w.ig.m.br:=(BB ok BF).ok;have auV:w.ig.m.eV 1000000:=by
  have:=VV (s:=w.s) (bH:=w.bH) (f:=(·.gR)) nz fun m h=>by have:=bh.EE h;exact⟨by have:=this.1;omega,by have:=this.2;omega⟩
  exact this
 refine ai (dk a 0 rfl rfl (ai (dk a 0 rfl (v:=int w.b4) rfl ?_)));have zA:=a;refine LW (s:=w.s) h.am Yy auV l a (al (k:=1) rfl) ?_;clear a;intro e1 v ag a hv;have hlen:=bh.Fr Yy (bq:=w.s.part w.b4);rw[show w.ig.m.size (w.s.part w.b4)=w.ig.size from rfl,N]at hlen;have B3:=h.pD c8;have g9:=(h.r c8).1;have ax2:=g9.2.2.2.1;have LM:¬((w.ig.m.all (w.s.part w.b4)).length:Int)<w.au.cY:=U
 have auW:bM (w.ig.m.all (w.s.part w.b4)):=bh.VU (BB ok BF).b;generalize w.ig.m.all (w.s.part w.b4)=pv at*;have zC:∀ {bL BZ:LB},((((S++F)++iY dh aL cL.bn w.ig bc aO bX bZ)++bL)++BZ)[(S++F).length+0]?=some (aa dh (ka aL w.ig bc aO bX)):=ak (ak (al rfl));have j:(ka aL w.ig bc aO bX).all dx=true:=L8 h1;refine ai (Z bj (bk a _ zC (v:=int w.au.cY) (auR rfl) ⟨gw zA _ (ak (al (k:=0) rfl)) a _ zC j,?_⟩));obtain⟨t,ht⟩:=Int.eq_ofNat_of_zero_le (show 0<=w.au.cY by omega);have ht:w.au.cY=(t:Int):=ht;obtain⟨cF,dw,kA⟩:=qP hv.gd (n:=t) U;rw[ht];refine Z dw ?_;refine vf a (kA _ hv.gd).app' (fun y fS=>auW y (mem_of_mem_take fS)) (by simp;omega) ?_;intro oA zr;refine ai (Z bj (fe zr _ zC (auS (n:=4) a2 rfl) (by rw[dp];exact a2) U ⟨gw a _ zC zr _ zC j,gw zA _ (ak (al (k:=0) rfl)) a _ zC j,?_⟩));clear a zA;refine Z (JT _ lP a2) (ay (fun eh=>?_) (fun eh=>?_))
 ·rw[if_neg (by rintro(e|e);exact LM e;rw[ht]at e;exact e eh)]at fD;refine ai (hc zr.left 0 rfl rfl (by rw[oe (w:=w.ig) a2];omega) (bI:=ka aL {w.ig with b8:=4} bc aO bX) (mn a2 rfl 3) ?_);intro H a;exact fD H cL he ⟨h.q,h.au,h.aO,h.cM,h.oc,h.od,h.s,h.c4,h.am,fun _=>h.r c8,fun e=>absurd e aW,h.wr,aW,fun _=>by rw[show({w.ig with b8:=4}:bG).size=w.ig.size from rfl,N];exact B3,h.aF⟩ l a
 ·rw[if_pos (.inr (by rw[ht];exact eh))]at fD;refine ai (hc zr.left 0 rfl rfl (by rw[oe (w:=w.ig) a2];omega) (bI:=ka aL {w.ig with aX:=153} bc aO bX) (mn a2 rfl 4) ?_);intro H a;exact fD H cL he ⟨h.q,h.au,h.aO,h.cM,h.oc,h.od,h.s,h.c4,h.am,fun _=>h.r c8,h.z,h.wr,h.qk,fun _=>by rw[show({w.ig with aX:=153}:bG).size=w.ig.size from rfl,N];exact B3,h.aF⟩ l a
theorem auX(b:¬(w.aX≠0\/w.b8=4))(c:w.b8≠1)(d:w.b8≠3)(a:w.cM=[])(e:w.q=aF::r):w.step=(true,({w with q:=r}:bG).gv aF):=by unfold bG.step;rw[if_neg b,if_neg c,if_neg d];simp[a,e]
theorem Yz:fk (x::ae)=aN x++fk ae:=rfl
theorem auY(l:List LI):(fk l).all cS=true:=by unfold fk;rw[all_flatMap,all_eq_true];intro y _;exact ge y
theorem auZ(h:∀x∈l,x.length=64):(fk l).length=l.length*64:=A3 fun x a=>by rw[dp];exact h x a
theorem au0(h:nG S w bc aO bX bZ)(L:jz w.m)(nz:w.m.eV 999999)(qM:w.m.d.cells.length<=99999)(lh:gX M w.m)(b:ac H (((S++F)++iY dh aL M.bn w bc aO bX bZ)++cW M w.m))
  (g:∀E cL B0 X o B1,M.Eq cL->nG S w.step.2 B0 X o B1->gX cL w.step.2.m->ac E (((S++F)++iY dh aL cL.bn w.step.2 B0 X o B1)++cW cL w.step.2.m)->K (.bool w.step.1) E):aG P 111 [ad dh 0] H K:=by
 refine ahN.1 ?_;have a2:=h.au.bi;have nQ:w.size<=99999:=Nat.le_trans (tR L.ok) qM;have N:w.m.eV 1000000:=⟨by have:=nz.1;omega,by have:=nz.2;omega⟩;have fz:∀ {r},w.step=r->r=(false,w)->K (.bool false) H:=by intro r cU dw;rw[cU,dw]at g;exact g H M bc aO bX bZ ⟨rfl,rfl⟩ h lh b
 refine cy (fun bN E=>bN=[ad dh 0]/\H=E/\¬(w.aX≠0\/w.b8=4)) ?_ ?_
 ·refine ai (dk b 0 rfl (v:=int w.aX) (jm (n:=4) a2 rfl 4) (Z dX (ay (fun W=>?_) (fun W=>?_))))
  ·exact Z (dT W) (dz rfl (fz rfl (by unfold bG.step;rw[if_pos (.inl W)])))
  ·refine ai (dk b 0 rfl (v:=int w.b8) (jm (n:=4) a2 rfl 3) (Z cN (Z (dl W) (ay (fun h2=>?_) (fun h2=>?_)))))
   ·exact fz rfl (by unfold bG.step;rw[if_pos (.inr U)])
   ·exact⟨rfl,rfl,by rintro(e|e);exact W e;omega⟩
 rintro bN E ⟨rfl,rfl,eZ⟩
 try simp only[c1,c2]
 have vw:w.aX=0:=Classical.byContradiction fun e=>eZ (.inl e)
 have uk:=g;unfold bG.step at g fz;rw[if_neg eZ]at g fz;refine ai (dk b 0 rfl (v:=int w.b8) (jm (n:=4) a2 rfl 3) (Z cN (ay (fun W=>?_) (fun W=>?_))))
 ·have W:w.b8=1:=U
  rw[if_pos W]at g;refine auJ h L.ok N U lh b ?_;intro H cL he C b;exact g H cL bc aO bX bZ he (h.mj W) C b
 rw[if_neg (show¬w.b8=1 by omega)]at g fz;refine ai (dk b 0 rfl (v:=int w.b8) (jm (n:=4) a2 rfl 3) (Z cN (ay (fun h2=>?_) (fun h2=>?_))))
 ·have h2:w.b8=3:=U
  rw[if_pos h2]at g;refine auT h h2 L nz U lh b ?_;intro H cL he aH C b;exact g H cL bc aO bX bZ he aH C b
 rw[if_neg (show¬w.b8=3 by omega)]at g fz;refine ai (dk b 0 rfl (v:=bX) (jm (n:=4) a2 rfl 1) (bg h.cM.aZ (Z go ?_)));cases i:w.cM with
 | cons x ae=>
  rw[i]at g;simp only at g;refine kf aW ?_;have YA:=h.cM;have u:=h.oc;rw[i]at YA u;have wA:=u x (.head _);have V:=auZ u;obtain⟨f,j,rfl,qD,B⟩:=YA.am;have wl:(aa f (fk (x::ae)))∈iY dh aL M.bn w bc aO (am f 0 (ae.length+1) j) bZ:=by unfold iY;rw[i,B];simp
  obtain⟨BY,FX⟩:=mem_iff_getElem?.1 wl;have ax3:ae.length+1<=100000:=by have:=h.aF;rw[i]at this;exact this
  refine ai (dk b 0 rfl (v:=ad aL 0) rfl (ai (dk b 0 rfl (v:=bB .u64 w.bH) rfl (ai (dk b 0 rfl (v:=int w.wr) (jm (n:=4) a2 rfl 2) (ai (dk b 0 rfl (v:=am f 0 (ae.length+1) j) (jm (n:=4) a2 rfl 1) ?_)))))));refine Z (ez U U) (fe b _ (ak (al FX)) (ag:=aN x) (by show((fk (x::ae)).drop (0+0*64)).take 64=_;rw[Yz];exact take_left' (by rw[dp];exact wA)) (by rw[dp];exact wA) U ?_);refine at8 (s:=w.s) h.s h.c4 L.ok wA N lh b (al (k:=1) rfl) ?_;clear b;intro H cL b he C;have lI:(w.jA x).size=w.size:=L7 (w:=w) (aX:=(w.jA x).aX) (b8:=w.b8) fun m=>auQ m _ _ x
  have ax4:(w.jA x).m=(w.s.as w.m w.bH (·.fh (w.s.part w.s.b4) w.wr x)).1:=rfl;refine ai (hc b 0 rfl rfl (by rw[oe a2];omega) (bI:=ka aL (w.jA x) bc aO (am f 0 (ae.length+1) j)) (mn a2 rfl 4) ?_);clear b;intro H b;have b:ac H (((S++F)++iY dh aL cL.bn (w.jA x) bc aO (am f 0 (ae.length+1) j) bZ)++cW cL (w.jA x).m):=by rw[he.m];exact b
  have B3:∀(_:w.b8≠0),w.au.cY<=64*((w.jA x).size:Int):=fun e=>by rw[lI];exact h.pD e
  refine ai (dk b 0 rfl (v:=int (w.jA x).aX) (jm (n:=4) a2 rfl 4) (Z cN (ay (fun eh=>?_) (fun eh=>?_))))
  ·have hf:w.fill x ae={w.jA x with cM:=ae,wr:=w.wr+1}:=by unfold bG.fill;rw[if_pos eh]
   rw[hf]at g;refine el b (show _=some (am H.next 0 0 129,H.push [])from rfl) ?_;clear b;intro q H b
   replace b:ac H (((((S++F)++iY dh aL cL.bn (w.jA x) bc aO (am f 0 (ae.length+1) j) bZ)++cW cL (w.jA x).m))++[aa q []]):=b
   refine ai (bk b _ (ak (ak (al (k:=0) rfl))) (v:=am f 0 (ae.length+1) j) (jm (n:=4) a2 rfl 1) ?_);obtain⟨bC,rT⟩:=BW (size:=64) (p:=f) (n:=ae.length) (c:=j) (H:=H) U qD;refine Z rT ?_;have au1:(aa f (fk (x::ae)))∈iY dh aL cL.bn (w.jA x) bc aO (am f 0 (ae.length+1) j) bZ:=by unfold iY;rw[show(w.jA x).cM=x::ae from i,B];simp
   obtain⟨ax5,LO⟩:=mem_iff_getElem?.1 au1;refine BV (n:=ae.length) b (ak (al LO)) V (auY _) U U U ?_;clear b;intro I H b J;have LY:(fk (x::ae)).drop 64=fk ae:=by rw[Yz];exact drop_left' (by rw[dp];exact wA)
   rw[LY]at b J
   replace b:=Gc b
   refine ai (hc b 0 rfl J.kk (by rw[oe (w:=w.jA x) a2];omega) (bI:=ka aL (w.jA x) bc aO I) (mn a2 rfl 1) ?_);clear b;intro H b;refine ai (dk b 0 rfl (v:=int w.wr) (jm (n:=4) a2 rfl 2) (Z (v:=int ((w.wr+1:Nat):Int)) (by rw[f2 (by have:=h.wr;omega) (by have:=h.wr;omega)];rfl) ?_));refine ai (hc b 0 rfl rfl (by rw[oe (w:=w.jA x) a2];omega) (bI:=ka aL {w.jA x with cM:=ae,wr:=w.wr+1} bc aO I) (mn a2 rfl 2) ?_);clear b;intro H b;refine g H cL bc aO I bZ he ⟨h.q,h.au,h.aO,J,fun y fS=>u y (.tail _ fS),h.od,h.s,h.c4,h.am,h.r,h.z,?_,h.qk,B3,by show ae.length<=100000;omega⟩ C ?_
   ·have:(w.wr:Int)<w.m.size (w.s.part w.s.b4):=by
     have eh:(w.s.as w.m w.bH (·.fh (w.s.part w.s.b4) w.wr x)).2=0:=eh;unfold dU.as at eh;split at eh
     ·exact VX (m:={w.m with dt:=w.s.h7}) eh
     ·exact absurd eh aW
    have:=tR L.ok (bq:=w.s.part w.s.b4);show w.wr+1<=100000;omega
   ·refine(b.cf (bL:=(((S++F)++([aa dh (ka aL {w.jA x with cM:=ae,wr:=w.wr+1} bc aO I),aa aL (gJ (w.jA x).s cL.bn)]++(aw bc bZ++aw I (fk ae))))++cW cL (w.jA x).m)++aw (am f 0 (ae.length+1) j) (fk (w.jA x).cM)) (cO fun p=>by unfold iY;simp only[set_cons_zero,cons_append,nil_append,countP_append,countP_cons,countP_nil];omega)).left
  ·have hf:w.fill x ae=w.jA x:=by unfold bG.fill;rw[if_neg eh]
   rw[hf]at g;exact g H cL bc aO _ bZ he ⟨h.q,h.au,h.aO,h.cM,h.oc,h.od,h.s,h.c4,h.am,h.r,h.z,h.wr,h.qk,B3,h.aF⟩ C b
 | nil=>
 rw[i]at g fz;simp only at g fz;refine ix aW ?_;refine ai (dk b 0 rfl (v:=bc) rfl (bg h.q.own.aZ (Z cN ?_)));cases iM:w.q with
 | nil=>rw[iM]at fz;exact kf aW (fz rfl rfl)
 | cons aF r=>
  refine ix (by simp;omega) ?_;have l:=h.q;have YB:=h.od;rw[iM]at l YB;obtain⟨b3,tC,ht,BX⟩:=l.head (fun a b3 h=>h.row.1);have V:=l.own.len;have au2:=l.du;obtain⟨j4,j,rfl,qD,B⟩:=l.own.am;obtain⟨xd,L1⟩:=tC.row;have ax6:∀ {bL},((((S++F)++([aa dh (ka aL w (am j4 0 (r.length+1) j) aO bX),aa aL (gJ w.s M.bn),aa j4 bZ]++aw bX (fk w.cM)))++cW M w.m)++bL)[(S++F).length+2]?=some (aa j4 bZ):=ak (ak (al rfl));have f3:iY dh aL M.bn w (am j4 0 (r.length+1) j) aO bX bZ=[aa dh (ka aL w (am j4 0 (r.length+1) j) aO bX),aa aL (gJ w.s M.bn),aa j4 bZ]++aw bX (fk w.cM):=by unfold iY;rw[B];rfl
  rw[f3]at b;refine ai (dk b 0 rfl (v:=am j4 0 (r.length+1) j) rfl (Z (ez U U) ?_));refine fe b ((S++F).length+2) (ak (al rfl)) (ag:=b3) (by simpa using ht) xd U ?_;rw[XH];refine b0 b ?_;clear b;intro t H b;refine dn b (_+0) (al rfl) XI.1 xd L1 ?_;clear b;intro H b
  replace b:=Gc b.bp
  refine el b (KF _) ?_;clear b;intro vy H b;refine ai (bk b _ (ak (ak (al (k:=0) rfl))) (v:=am j4 0 (r.length+1) j) rfl ?_);obtain⟨bC,rT⟩:=BW (size:=41) (p:=j4) (n:=r.length) (c:=j) (H:=H) U qD;refine Z rT ?_;have auh:r.length+1<=1000:=YB;refine BV (n:=r.length) b (ak (al (k:=2) rfl)) V au2 U U U ?_;clear b;intro I H b J;have au3:=BX I J
  replace b:ac H (((S++((F++(aw I (bZ.drop 41)++[aa j4 bZ]))++[aa t b3]))++[aa dh (ka aL w (am j4 0 (r.length+1) j) aO bX),aa aL (gJ w.s M.bn)])++(aw bX (fk w.cM)++cW M w.m)):=b.cf (cO fun p=>by simp only[set_cons_zero,cons_append,nil_append,countP_append,countP_cons,countP_nil];omega)
  refine ai (hc b 0 rfl J.kk (by rw[oe a2];omega) (bI:=ka aL {w with q:=r} I aO bX) rfl ?_);clear b;intro H b;refine gQ b _ (ak (ak (al (al (k:=0) rfl)))) xd U ?_
  replace b:ac H (((S++F)++iY dh aL M.bn {w with q:=r} I aO bX (bZ.drop 41))++cW M w.m):=(b.cf (bL:=(((S++F)++([aa dh (ka aL {w with q:=r} I aO bX),aa aL (gJ w.s M.bn)]++(aw I (bZ.drop 41)++aw bX (fk w.cM))))++cW M w.m)++([aa j4 bZ]++[aa t b3])) (cO fun p=>by simp only[set_cons_zero,cons_append,nil_append,countP_append,countP_cons,countP_nil];omega)).left
  refine auN (w:={w with q:=r}) ⟨au3,h.au,h.aO,h.cM,h.oc,by show r.length<=1000;omega,h.s,h.c4,h.am,h.r,h.z,h.wr,h.qk,h.pD,h.aF⟩ vw i L.ok N (by show w.size<=100000;omega) lh tC b ?_;clear b;intro H X o aH b;have hm:(({w with q:=r}:bG).gv aF).m=w.m:=(WM).2.2.2.1;rw[auX eZ U U i iM]at uk;refine uk H M I X o _ ⟨rfl,rfl⟩ aH (by rw[hm];exact lh) (by rw[hm];exact b)
end
section
variable{H K d l eX oW n cm s g6 x ab}
section
theorem au4(c:ac H ab)
  (f:∀s d E,ac E (ab++[(s,fK (replicate (max 1 (min g6 8)).toNat 0)),(d,fP 0 (max 1 (min oW 1000000)) s (max 1 (min g6 8)).toNat)])->K (ad d 0) E):aG P 104 [int oW,int g6] H K:=by
 refine ahG.1 ?_;refine cy (fun b E=>b=[int (max 1 oW),int g6]/\E=H) ?_ ?_
 repeat refine aQ ?_
 refine ay (fun h=>?_) (fun h=>?_);rw[show max 1 oW=1 by omega];exact⟨rfl,rfl⟩;rw[show max 1 oW=oW by omega];exact⟨rfl,rfl⟩;rintro b E ⟨rfl,rfl⟩;refine cy (fun b a=>b=[int (max 1 (min oW 1000000)),int g6]/\a=E) ?_ ?_
 repeat refine aQ ?_
 refine ay (fun h=>?_) (fun h=>?_);rw[show max 1 (min oW 1000000)=1000000 by omega];exact⟨rfl,rfl⟩;rw[show max 1 (min oW 1000000)=max 1 oW by omega];exact⟨rfl,rfl⟩;rintro b a ⟨rfl,rfl⟩;refine cy (fun b E=>b=[int (max 1 (min oW 1000000)),int (max 1 g6)]/\E=a) ?_ ?_
 repeat refine aQ ?_
 refine ay (fun h=>?_) (fun h=>?_);rw[show max 1 g6=1 by omega];exact⟨rfl,rfl⟩;rw[show max 1 g6=g6 by omega];exact⟨rfl,rfl⟩;rintro b E ⟨rfl,rfl⟩;refine cy (fun b a=>b=[int (max 1 (min oW 1000000)),int (max 1 (min g6 8))]/\a=E) ?_ ?_
 repeat refine aQ ?_
 refine ay (fun h=>?_) (fun h=>?_);rw[show max 1 (min g6 8)=8 by omega];exact⟨rfl,rfl⟩;rw[show max 1 (min g6 8)=max 1 g6 by omega];exact⟨rfl,rfl⟩;rintro b a ⟨rfl,rfl⟩
 try simp[c2]
 rw[Wh];have e:max 1 (min g6 8)=((max 1 (min g6 8)).toNat:Int):=U
 rw[e];generalize (max 1 (min g6 8)).toNat=w at*;refine uR (k:=.i64) (eF:=.i64) c U U fun s H c=>Z rfl (b0 c ?_)
 intro d H c;rw[Pw,append_assoc]at c;apply f s d H;rw[show(fK (replicate w 0))=⟨replicate w (int 0),true⟩ by simp[fK]];exact c
theorem au5(a:ac H ab)(i:Nat)(aB:ab[i]?=some (d,fP cm eX s n))(g:0<=cm)(e:cm<=1099511627776)
  (b:∀E,ac E (ab.set i (d,fP (cm+max 0 (min x (1099511627776-cm))) eX s n))->K (.tuple #[]) E):aG P 105 [ad d 0,int x] H K:=by
 refine ahH.1 ?_
 repeat refine aQ ?_
 apply bk a i aB rfl
 repeat refine aQ ?_
 refine cy (fun f E=>f=[ad d 0,int (min x (1099511627776-cm))]/\E=H) ?_ ?_
 repeat refine aQ ?_
 refine ay (fun h=>?_) (fun h=>?_);rw[show min x (1099511627776-cm)=1099511627776-cm by omega];exact⟨rfl,rfl⟩;rw[show min x (1099511627776-cm)=x by omega];exact⟨rfl,rfl⟩;rintro f E ⟨rfl,rfl⟩
 repeat refine aQ ?_
 refine ay (fun h=>?_) (fun h=>?_);rw[show max 0 (min x (1099511627776-cm))=min x (1099511627776-cm) by omega]at b
 repeat refine aQ ?_
 apply bk a i aB rfl
 repeat refine aQ ?_
 exact cQ a i aB rfl aW rfl fun E c=>b E c
 rw[show cm+max 0 (min x (1099511627776-cm))=cm by omega,x7 aB]at b;exact b _ a
theorem YC(b:ac H ab)(i j:Nat)(c:ab[i]?=some (d,fP cm eX s l.length))(f:ab[j]?=some (s,fK l))(g:∀y∈l,0<=y/\y<=cm)(e:cm<=1099511627776)
  (a:K (int (BK cm l x)) H):aG P 173 [ad d 0,int x] H K:=by
 refine aiW.1 ?_;unfold BK at a;apply sv
 repeat refine aQ ?_
 by_cases h:0<=x/\x<(l.length:Int);rw[if_pos h]at a;have m:=g _ (aqG l x h)
 repeat (first|refine aQ ?_|refine nl ?_)
 apply bk b i c rfl
 repeat (first|refine aQ ?_|refine lL ?_|refine nl ?_)
 apply bk b i c rfl
 repeat refine aQ ?_
 apply bk b i c rfl
 repeat refine aQ ?_
 apply bk b j f (K1 l x h)
 repeat refine aQ ?_
 exact a;rw[if_neg h]at a;refine ay (fun k=>?_) (fun k=>?_)
 repeat (first|refine aQ ?_|refine hK ?_)
 exact a
 repeat refine aQ ?_
 apply bk b i c rfl
 repeat (first|refine aQ ?_|refine lL ?_|refine oM ?_)
 exact a
theorem au6{x:Int}(a:ac H ab)(i j:Nat)(c:ab[i]?=some (d,fP cm eX s l.length))(g:ab[j]?=some (s,fK l))
  (b:∀E,ac E (ab.set j (s,fK (if 0<=x/\x<l.length then l.set x.toNat cm else l)))->K (.bool (decide (0<=x/\x<l.length))) E):aG P 113 [ad d 0,int x] H K:=by
 refine ahQ.1 ?_;apply sv
 repeat refine aQ ?_
 by_cases h:0<=x/\x<(l.length:Int);rw[if_pos h,decide_eq_true h]at b
 repeat (first|refine aQ ?_|refine nl ?_)
 apply bk a i c rfl
 repeat (first|refine aQ ?_|refine lL ?_|refine nl ?_)
 apply bk a i c rfl
 repeat refine aQ ?_
 apply bk a i c rfl
 repeat refine aQ ?_
 have e:(l.map int).set (0+x.toNat*1) (int cm)=(l.set x.toNat cm).map int:=by simp[map_set]
 exact cQ a j g rfl (by simp;omega) e fun E f=>b E f
 rw[if_neg h,decide_eq_false h,x7 g]at b;refine ay (fun k=>?_) (fun k=>?_)
 repeat (first|refine aQ ?_|refine hK ?_)
 exact b H a
 repeat refine aQ ?_
 apply bk a i c rfl
 repeat (first|refine aQ ?_|refine lL ?_|refine oM ?_)
 exact b H a
theorem au7(c:ac H ab)(i j:Nat)(f:ab[i]?=some (d,fP cm eX s l.length))(g:ab[j]?=some (s,fK l))(q:0<l.length)(o:l.length<=1000)(m:∀y∈l,0<=y/\y<=cm)(a:cm<=1099511627776)
  (p:K (int (cm-rb l)) H):aG P 112 [ad d 0] H K:=by
 refine ahP.1 ?_;apply YC c i j f g m a
 repeat refine aQ ?_
 apply bk c i f rfl
 repeat refine lL ?_
 refine ahO (fun k n E=>E=H/\∃y:Nat,y<=l.length/\k=l.length-y/\n=[ad d 0,int 0,int (cm-(l.take y).foldl max (l.getD 0 0)),int l.length,int y]) _ _ ?_ l.length _ _ ⟨rfl,0,U,rfl,?_⟩;rintro k n E ⟨rfl,y,r,rfl,rfl⟩;unfold RE;refine ul ?_
 repeat refine aQ ?_
 refine ay (fun h=>?_) (fun h=>?_);apply YC c i j f g m a;have b:y<l.length:=U
 have e:min (cm-(l.take y).foldl max (l.getD 0 0)) (BK cm l y)=cm-(l.take (y+1)).foldl max (l.getD 0 0):=by unfold BK;rw[if_pos U,Int.toNat_natCast,take_succ_eq_append_getElem b,foldl_append];simp only[foldl_cons,foldl_nil];rw[show l.getD y 0=l[y] by rw[getD_eq_getElem?_getD,getElem?_eq_getElem b];rfl];omega
 repeat (first|refine aQ ?_|refine lL ?_)
 rw[e];exact⟨_,U,rfl,y+1,U,rfl,rfl⟩
 repeat refine qJ ?_
 have e:y=l.length:=U
 subst e;rw[take_of_length_le (Nat.le_refl _)];exact p;unfold BK;rw[if_pos U];rfl
end
end
section
variable{F H K S X d gg p bQ r2 st t x}
structure og where
 co:Nat
 aL:Nat
 bY:Nat
 aC:Nat
 c:Nat
 st:Nat
 dh:Nat
 bw:Nat
 aF:Nat
 M:lA
 kv:Value
 aq:Value
 cC:Value
 aO:Value
 bX:Value
 fL:Value
 fv:Value
 c3:Value
 bc:Value
 cp:Value
 ov:Value
 d3:Value
 ly:Value
 hu:Value
 bZ:aj
 ep:aj
 dq:aj
 e5:aj
 eE:kD
variable{r:og}
def oh(r:og)(p:cv):aj:=[ad r.aL 0,bB .u64 p.w.bH,ad r.bY 0,ad r.c 0,ad r.dh 0,ad r.bw 0,int p.st,int p.gg]
abbrev r7(r:og)(p:cv):aj:=lx r.kv p.c.t r.bc r.cp r.hu p.c.aC p.c.h0 p.c.ah.isSome p.c.cs r.st p.c.aX
def k0(r:og)(p:cv):LB:=
 [aa r.co (oh r p),aa r.bY (fq r.aC p.l r.d3 r.ly r.c3 p.c.aC),aa r.aC [r.fL,r.fv,int p.az.bU],aa r.c (r7 r p),aa r.st (it p.c r.aq r.cC),aa r.dh (lV r.aL p.w.bH p.w.b4 r.ov p.w.au r.aO p.w.b6 r.bX p.w.wr p.w.b8 p.w.aX),aa r.aL (gJ p.w.s r.M.bn),(r.bw,fP p.d.cm p.d.eX r.aF p.d.cb.length),(r.aF,fK p.d.cb)]
def li(r:og)(p:cv):LB:=aw r.bc r.bZ++(aw r.cp r.ep++(aw r.ov r.dq++(aw r.cC r.e5++(aw r.bX (fk p.w.cM)++(aw r.fv (ee p.az.aK)++cW r.M p.w.m)))))
structure ql (S:LB) (r:og) (p:cv):Prop where
 k:rZ S p.c r.kv r.aq r.bc r.cp r.ov r.cC r.bZ r.ep r.dq r.e5
 l:zx S p.l p.c.fJ p.c.ac1 r.bc r.cp r.c3 p.c.aC r.bZ r.ep
 n:qj S r.fL r.fv r.eE p.az
 w:nG S {p.w with q:=p.c.gW} r.ov r.aO r.bX r.dq
 M:gX r.M p.w.m
 hu:cS r.hu=true
structure Ma (p:cv):Prop where
 m:jz p.w.m
 ny:p.w.m.eV 999999
 dH:p.w.m.d.cells.length<=99999
 bU:p.az.bU<=1000000
 d1:p.d.cb.length=3
 d2:∀y∈p.d.cb,0<=y/\y<=p.d.cm
 kg:0<=p.d.cm/\p.d.cm<=1099511627776
structure og.en (r bQ:og):Prop where
 co:bQ.co=r.co
 aL:bQ.aL=r.aL
 aC:bQ.aC=r.aC
 M:r.M.Eq bQ.M
theorem og.en.eu:r.en r:=⟨rfl,rfl,rfl,.eu⟩
theorem ql.app(h:ql S r p):ql (S++X) r p:=⟨h.k.app,h.l.app,h.n.app,h.w.app,h.M,h.hu⟩
abbrev jC(H:an)(S F:LB)(r:og)(p:cv):Prop:=ql S r p/\ac H (((S++F)++k0 r p)++li r p)
theorem YD{s:dU}(h:s.qh):(s.drop t).qh:=by unfold dU.drop;split;intro e;exact absurd rfl e;exact h
theorem ql.im(h:ql S r p):ql S r (p.im st gg):=
 ⟨h.k,h.l,h.n,⟨h.w.q,h.w.au,h.w.aO,h.w.cM,h.w.oc,h.w.od,FC h.w.s,YD h.w.c4,h.w.am,h.w.r,h.w.z,h.w.wr,h.w.qk,fun e=>by
  have:=h.w.pD e;have a:∀(s:dU),(s.drop p.w.bH).part p.w.b4=s.part p.w.b4:=by intro s;unfold dU.drop;split<;>rfl
  show p.w.au.cY<=64*((p.w.m.size ((p.w.s.drop p.w.bH).part p.w.b4):Nat):Int);rw[a];exact this,h.w.aF⟩,h.M,h.hu⟩
theorem Gd(h:jC H S F r p)(f:∀E,jC E S F r (p.im st gg)->K (.tuple [].toArray) E):aG P 106 [ad r.co 0,int st,int gg] H K:=by
 have⟨e,a⟩:=h;refine ahI.1 ?_;refine ai (hc a 0 rfl rfl (show 0+6<8 by omega) rfl (fun H a=>ai (hc a 0 rfl rfl (show 0+7<8 by omega) rfl (fun H a=>ai (dk a 0 rfl rfl (ai (dk a 0 rfl rfl ?_)))))));have b:ac H ((((S++F)++[aa r.co (oh r (p.im st gg)),aa r.bY (fq r.aC p.l r.d3 r.ly r.c3 p.c.aC),aa r.aC [r.fL,r.fv,int p.az.bU],aa r.c (r7 r p),aa r.st (it p.c r.aq r.cC),aa r.dh (lV r.aL p.w.bH p.w.b4 r.ov p.w.au r.aO p.w.b6 r.bX p.w.wr p.w.b8 p.w.aX)])++[aa r.aL (gJ p.w.s r.M.bn)])++([(r.bw,fP p.d.cm p.d.eX r.aF p.d.cb.length),(r.aF,fK p.d.cb)]++li r p)):=by simp[nil_append]at a⊢;exact a
 refine Yd e.w.c4 b fun H a=>f H ⟨e.im,?_⟩
 simp[nil_append]at a⊢;exact a
theorem B4(a:Nat):(((S++F)++k0 r p)++li r p)[(S++F).length+7]?=some (r.bw,fP p.d.cm p.d.eX r.aF p.d.cb.length):=ak (al rfl)
theorem YE:(((S++F)++k0 r p)++li r p)[(S++F).length+8]?=some (r.aF,fK p.d.cb):=ak (al rfl)
theorem ql.YF(h:ql S r p):ql S r {p with d:=d}:=⟨h.k,h.l,h.n,h.w,h.M,h.hu⟩
theorem au8(d:Ma p)(h:jC H S F r p)(b:∀E,jC E S F r (p.sX x)->K (.tuple [].toArray) E):aG P 45 [ad r.co 0,int x] H K:=by have⟨e,a⟩:=h;refine agy.1 ?_;unfold cv.sX at b;refine ai (dk a 0 rfl rfl (Z cN (ay (fun c=>?_) (fun c=>?_))));rw[if_pos c]at b;refine ai (dk a 0 rfl rfl (au5 a _ (B4 7) d.kg.1 d.kg.2 fun H a=>b H ⟨e.YF,?_⟩));rw[set_append_left _ _ (by unfold k0;simp[length_nil];omega),Go.Ab.bp]at a;exact a;rw[if_neg c]at b;exact b H ⟨e,a⟩
theorem au9(h:jC H S F r p)(a:∀E,jC E S F r p.sY.2->K (.bool p.sY.1) E):aG P 46 [ad r.co 0] H K:=by refine agz.1 ?_;unfold cv.sY at a;refine ai (dk h.2 0 rfl rfl (Z dX (ay (fun b=>?_) (fun b=>?_))));rw[if_pos b]at a;exact a H h;rw[if_neg b]at a;exact Gd h fun H h=>a H h
end
section
variable{F H K S ac1 iG cs e i l n az p bv r dt}
theorem ava(f:p.d.cb.length=3)(h:jC H S F r p)(g:i<3)(b:∀E,jC E S F r {p with d:=p.d.n7 i}->K (.bool true) E):aG P 113 [ad r.bw 0,int i] H K:=by
 apply au6 h.2 _ _ (B4 7) YE;intro H a;rw[decide_eq_true U];rw[if_pos U,Int.toNat_natCast]at a;refine b H ⟨h.1.YF,?_⟩;rw[set_append_left _ _ (by unfold k0;simp[length_nil];omega),Go.Ab.bp]at a;have e:(p.d.n7 i).cb.length=p.d.cb.length:=by unfold rd.n7;simp
 have:ac H (((S++F)++[aa r.co (oh r p),aa r.bY (fq r.aC p.l r.d3 r.ly r.c3 p.c.aC),aa r.aC [r.fL,r.fv,int p.az.bU],aa r.c (r7 r p),aa r.st (it p.c r.aq r.cC),aa r.dh (lV r.aL p.w.bH p.w.b4 r.ov p.w.au r.aO p.w.b6 r.bX p.w.wr p.w.b8 p.w.aX),aa r.aL (gJ p.w.s r.M.bn),(r.bw,fP p.d.cm p.d.eX r.aF (p.d.n7 i).cb.length),(r.aF,fK (p.d.n7 i).cb)])++li r p):=by rw[e];exact a
 exact this
theorem avb{q:cv}:q.iG i iG e cs=(iG,if e≠0 then(if iG then {q with d:=q.d.n7 i}else q).im 3 e else if cs then(if iG then {q with d:=q.d.n7 i}else q).im 2 0 else(if iG then {q with d:=q.d.n7 i}else q)):=rfl
structure avc (p b5:cv):Prop where
 st:b5.st=1
 d:b5.d=p.d
theorem avd:(hd n l bv ac1 az).2.2.2.1.length<=ac1.length:=by unfold hd;split;simp;split;simp;split;simp;simp only;split;simp;split<;>simp
theorem ave(c:fj):c.step.2.aC=c.aC/\c.step.2.fJ.length<=c.fJ.length:=by
 have e:∀ae,(c.im ae).2.aC=c.aC/\(c.im ae).2.fJ=c.fJ:=by intro ae;unfold fj.im;(repeat' split)<;>exact⟨rfl,rfl⟩
 have f:∀(d:fj) ae w b,(d.dv ae w b).aC=d.aC/\(d.dv ae w b).fJ=d.fJ:=by intro d ae w b;unfold fj.dv;(repeat' split)<;>exact⟨rfl,rfl⟩
 have g:∀(d:fj) b,(d.sS b).aC=d.aC/\(d.sS b).fJ=d.fJ:=by intro d b;unfold fj.sS;(repeat' split)<;>exact⟨rfl,rfl⟩
 have a:∀r,(c.vk r).aC=c.aC/\(c.vk r).fJ=r:=fun r=>⟨rfl,rfl⟩
 unfold fj.step;split;exact⟨rfl,Nat.le_refl _⟩;split;split;exact⟨(e _).1,by rw[(e _).2];exact Nat.le_refl _⟩;split;exact⟨rfl,Nat.le_refl _⟩;rename_i y r h;split;exact⟨rfl,Nat.le_refl _⟩;rw[h];split;exact⟨(f _ _ _ _).1.trans (a _).1,by rw[(f _ _ _ _).2,(a _).2];simp⟩;exact⟨(a _).1,by rw[(a _).2];simp⟩;split;exact⟨rfl,Nat.le_refl _⟩;rename_i y r h;split;exact⟨rfl,Nat.le_refl _⟩;rw[h];split;exact⟨(g _ _).1.trans (a _).1,by rw[(g _ _).2,(a _).2];simp⟩;exact⟨(a _).1,by rw[(a _).2];simp⟩
theorem avf(w:bG):w.step.2.q.length<=w.q.length:=by
 have a:∀(w:bG) n,(w.gv n).q=w.q:=by
  intro w n;unfold bG.gv bG.q8 bG.body
  (repeat' split)<;>rfl
 unfold bG.step;split;exact Nat.le_refl _;split;unfold bG.mj;split<;>exact Nat.le_refl _;split;unfold bG.py;(repeat' split)<;>exact Nat.le_refl _;split;unfold bG.fill;split<;>exact Nat.le_refl _;split;exact Nat.le_refl _;rename_i n q h;rw[a,h];simp
theorem avg(hf:Ma p)(h:jC H S F r p)(fD:∀E X bQ,r.en bQ->jC E (S++X) F bQ (p.step dt).2->K (.bool (p.step dt).1) E):aG P 51 [ad r.co 0,int dt] H K:=by
 refine agE.1 ?_;have uk:∀ {b d7},p.step dt=(b,d7)->∀E X bQ,r.en bQ->jC E (S++X) F bQ d7->K (.bool b) E:=by intro b d7 e E X bQ h1 h2;rw[e]at fD;exact fD E X bQ h1 h2
 clear fD;have W:∀ {H bQ d7},jC H S F bQ d7->jC H (S++[]) F bQ d7:=by intro H bQ d7 h;rw[append_nil];exact h
 obtain⟨f,a⟩:=h;refine ai (dk a 0 rfl (v:=int p.st) rfl (Z dX (ay (fun h1=>?_) (fun h1=>?_))));exact uk (by unfold cv.step;rw[if_pos h1]) H [] r .eu (W ⟨f,a⟩);have wZ:p.st=1:=Classical.not_not.1 h1;refine ai (dk a 0 rfl (v:=ad r.bY 0) rfl (ai (dk a 0 rfl (v:=ad r.c 0) rfl (ai (dk a 0 rfl (v:=ad r.dh 0) rfl ?_)))));refine cy (fun bN E=>∃(b5:cv) (r1:og) (X:LB) (i:Nat) (L cs:Bool) (e:Int),bN=[ad r.co 0,int dt,.bool L,int e,ad r1.dh 0]/\dt=i/\i<3/\p.step dt=b5.iG i L e cs/\avc p b5/\(cs=decide (i=2/\b5.w.b8=4))/\r.en r1/\jC E (S++X) F r1 b5) ?_ ?_;refine Z cN (ay (fun fp=>?_) (fun fp=>?_));have e:p.step dt=p.K2:=by unfold cv.step;rw[if_neg h1,if_neg U,if_pos fp]
 rw[Lb]at e;refine ai (dk a 3 rfl (v:=r.bc) rfl (ai (hc a 1 rfl f.k.i.own.kk (by rw[qi f.l.m.ok.bi];omega) (bI:=fq r.aC p.l r.bc r.ly r.c3 p.c.aC) rfl ?_)));clear a;intro H a;refine ai (dk a 3 rfl (v:=r.cp) rfl (ai (hc a 1 rfl f.k.b.own.kk (by rw[qi f.l.m.ok.bi];omega) (bI:=fq r.aC p.l r.bc r.cp r.c3 p.c.aC) rfl ?_)));clear a;intro H a;generalize ar:([aa r.co (oh r p),aa r.c (r7 r p),aa r.st (it p.c r.aq r.cC),aa r.dh (lV r.aL p.w.bH p.w.b4 r.ov p.w.au r.aO p.w.b6 r.bX p.w.wr p.w.b8 p.w.aX),aa r.aL (gJ p.w.s r.M.bn),(r.bw,fP p.d.cm p.d.eX r.aF p.d.cb.length),(r.aF,fK p.d.cb)]:LB)++(aw r.ov r.dq++(aw r.cC r.e5++(aw r.bX (fk p.w.cM)++cW r.M p.w.m)))=Rr;have m2:ac H ((S++(F++Rr))++rl r.bY r.aC p.l r.bc r.cp r.c3 r.fL r.fv p.c.aC r.bZ r.ep p.az):=a.cf (cO fun p=>by rw[<- ar];unfold rl k0 li;simp only[set_cons_zero,set_cons_succ,cons_append,nil_append,countP_append,countP_cons,countP_nil];omega);have CU:=avd (n:=p.c.aC) (l:=p.l) (bv:=p.c.fJ) (ac1:=p.c.ac1) (az:=p.az);refine auw f.l f.n hf.bU m2 ?_;clear a m2;intro H X g j vA vB C I N Ae a;have hm:p.uf={p with l:=(hd p.c.aC p.l p.c.fJ p.c.ac1 p.az).2.1,c:={p.c with fJ:=(hd p.c.aC p.l p.c.fJ p.c.ac1 p.az).2.2.1,ac1:=(hd p.c.aC p.l p.c.fJ p.c.ac1 p.az).2.2.2.1},az:=(hd p.c.aC p.l p.c.fJ p.c.ac1 p.az).2.2.2.2}:=by unfold cv.uf;rfl
 generalize hd p.c.aC p.l p.c.fJ p.c.ac1 p.az=jN at*;obtain⟨b,bN,ax8,ax9,rk⟩:=jN;simp only at N Ae a hm e CU⊢;have x:=f.k.app (X:=X)
 replace a:ac H ((((S++X)++F)++[aa r.bY (fq r.aC bN g j vA p.c.aC),aa r.c (r7 r p)])++(([aa r.aC [r.fL,vB,int rk.bU]]++(aw g C++(aw j I++aw vB (ee rk.aK))))++([aa r.co (oh r p),aa r.st (it p.c r.aq r.cC),aa r.dh (lV r.aL p.w.bH p.w.b4 r.ov p.w.au r.aO p.w.b6 r.bX p.w.wr p.w.b8 p.w.aX),aa r.aL (gJ p.w.s r.M.bn),(r.bw,fP p.d.cm p.d.eX r.aF p.d.cb.length),(r.aF,fK p.d.cb)]++(aw r.ov r.dq++(aw r.cC r.e5++(aw r.bX (fk p.w.cM)++cW r.M p.w.m)))))):=a.cf (cO fun p=>by rw[<- ar];unfold rl;simp only[cons_append,nil_append,countP_append,countP_cons,countP_nil];omega)
 refine ai (aD a (v:=g) rfl (ai (hc a 1 rfl N.o.own.kk (show 0+4<13 by omega) (bI:=lx r.kv p.c.t g r.cp r.hu p.c.aC p.c.h0 p.c.ah.isSome p.c.cs r.st p.c.aX) rfl ?_)));clear a;intro H a;refine ai (dk a 0 rfl (v:=j) rfl (ai (hc a 1 rfl N.i.own.kk (show 0+5<13 by omega) (bI:=lx r.kv p.c.t g j r.hu p.c.aC p.c.h0 p.c.ah.isSome p.c.cs r.st p.c.aX) rfl ?_)));clear a;intro H a;refine ai (dk a 0 rfl (v:=int bN.aX) (jm (n:=8) N.m.ok.bi rfl 1) ?_);refine⟨p.uf,{r with bc:=g,cp:=j,c3:=vA,fv:=vB,d3:=g,ly:=j,bZ:=C,ep:=I},X,0,b,false,bN.aX,rfl,U,U,?_,⟨wZ,rfl⟩,aW,⟨rfl,rfl,rfl,.eu⟩,?_,?_⟩;rw[e,hm];rw[hm];exact⟨⟨x.kv,x.r0,x.kB,x.jy,x.n3,N.o,N.i,x.o,N.mL,⟨Nat.le_trans CU x.n.1,x.n.2.1,x.n.2.2.1,x.n.2.2.2.1,Nat.le_trans N.n.1 N.n.2.1⟩,x.ok,x.aq,x.y,x.r3⟩,N,Ae,f.w.app,f.M,f.hu⟩;rw[hm];exact a.cf (bL:=(((S++X)++F)++[aa r.co (oh r p),aa r.bY (fq r.aC bN g j vA p.c.aC),aa r.aC [r.fL,vB,int rk.bU],aa r.c (lx r.kv p.c.t g j r.hu p.c.aC p.c.h0 p.c.ah.isSome p.c.cs r.st p.c.aX),aa r.st (it p.c r.aq r.cC),aa r.dh (lV r.aL p.w.bH p.w.b4 r.ov p.w.au r.aO p.w.b6 r.bX p.w.wr p.w.b8 p.w.aX),aa r.aL (gJ p.w.s r.M.bn),(r.bw,fP p.d.cm p.d.eX r.aF p.d.cb.length),(r.aF,fK p.d.cb)])++(aw g C++(aw j I++(aw r.ov r.dq++(aw r.cC r.e5++(aw r.bX (fk p.w.cM)++(aw vB (ee rk.aK)++cW r.M p.w.m))))))) (cO fun p=>by simp only[set_cons_zero,set_cons_succ,cons_append,nil_append,countP_append,countP_cons,countP_nil];omega)
 refine Z cN (ay (fun p6=>?_) (fun p6=>?_));have e:p.step dt=p.gZ:=by unfold cv.step;rw[if_neg h1,if_neg U,if_neg fp,if_pos p6]
 rw[Lc]at e;refine ai (dk a 5 rfl (v:=r.ov) rfl (ai (hc a 3 rfl f.k.o.own.kk (show 0+6<13 by omega) (bI:=jb r.kv p.c r.st r.bc r.cp r.ov) rfl ?_)));clear a;intro H a;generalize ar:([aa r.co (oh r p),aa r.bY (fq r.aC p.l r.d3 r.ly r.c3 p.c.aC),aa r.aC [r.fL,r.fv,int p.az.bU],aa r.dh (lV r.aL p.w.bH p.w.b4 r.ov p.w.au r.aO p.w.b6 r.bX p.w.wr p.w.b8 p.w.aX),aa r.aL (gJ p.w.s r.M.bn),(r.bw,fP p.d.cm p.d.eX r.aF p.d.cb.length),(r.aF,fK p.d.cb)]:LB)++(aw r.bX (fk p.w.cM)++(aw r.fv (ee p.az.aK)++cW r.M p.w.m))=Rr;have m2:ac H ((S++(F++Rr))++hU r.c r.st (jb r.kv p.c r.st r.bc r.cp r.ov) (it p.c r.aq r.cC) r.bc r.cp r.ov r.cC r.bZ r.ep r.dq r.e5):=a.cf (cO fun p=>by rw[<- ar];unfold hU k0 li;simp only[set_cons_zero,set_cons_succ,cons_append,nil_append,countP_append,countP_cons,countP_nil];omega);refine atu (kv:=r.kv) ⟨r.st,r.aq,r.bc,r.cp,r.ov,r.cC,r.bZ,r.ep,r.dq,r.e5,f.k,m2⟩ ?_;clear a m2;rintro H X ⟨B5,tJ,g,j,u,B6,C,I,J,Mb,V,a⟩;have wp:=ave p.c;have hm:p.BP={p with c:=p.c.step.2}:=rfl;generalize p.c.step=jN at*;obtain⟨b,bC⟩:=jN;simp only at V a hm e wp⊢
 replace a:ac H ((((S++X)++F)++[aa r.c (jb r.kv bC B5 g j u),aa r.dh (lV r.aL p.w.bH p.w.b4 r.ov p.w.au r.aO p.w.b6 r.bX p.w.wr p.w.b8 p.w.aX)])++(([aa B5 (it bC tJ B6)]++(aw g C++(aw j I++(aw u J++aw B6 Mb))))++([aa r.co (oh r p),aa r.bY (fq r.aC p.l r.d3 r.ly r.c3 p.c.aC),aa r.aC [r.fL,r.fv,int p.az.bU],aa r.aL (gJ p.w.s r.M.bn),(r.bw,fP p.d.cm p.d.eX r.aF p.d.cb.length),(r.aF,fK p.d.cb)]++(aw r.bX (fk p.w.cM)++(aw r.fv (ee p.az.aK)++cW r.M p.w.m))))):=a.cf (cO fun p=>by rw[<- ar];unfold hU;simp only[cons_append,nil_append,countP_append,countP_cons,countP_nil];omega)
 refine ai (dk a 0 rfl (v:=u) rfl (ai (hc a 1 rfl V.o.own.kk (by rw[show(lV r.aL p.w.bH p.w.b4 r.ov p.w.au r.aO p.w.b6 r.bX p.w.wr p.w.b8 p.w.aX).length=46 from oe (w:=p.w) f.w.au.bi];omega) (bI:=lV r.aL p.w.bH p.w.b4 u p.w.au r.aO p.w.b6 r.bX p.w.wr p.w.b8 p.w.aX) rfl ?_)));clear a;intro H a;refine ai (dk a 0 rfl (v:=int bC.aX) rfl ?_);have B7:=f.l.app (X:=X);have B:=f.w.app (X:=X);refine⟨p.BP,{r with st:=B5,aq:=tJ,bc:=g,cp:=j,ov:=u,cC:=B6,hu:=u,bZ:=C,ep:=I,dq:=J,e5:=Mb},X,1,b,false,bC.aX,rfl,U,U,?_,⟨wZ,rfl⟩,aW,⟨rfl,rfl,rfl,.eu⟩,?_,?_⟩;rw[e,hm];rw[hm];exact⟨V,⟨V.i,V.b,B7.m,B7.ok,B7.vz,⟨by rw[wp.1];exact Nat.le_trans wp.2 B7.n.1,by rw[wp.1];exact B7.n.2.1,by have:=V.n;show bC.ac1.length<=1000;omega⟩,V.mL⟩,f.n.app,⟨V.o,B.au,B.aO,B.cM,B.oc,by have:=V.n;show bC.gW.length<=1000;omega,B.s,B.c4,B.am,B.r,B.z,B.wr,B.qk,B.pD,B.aF⟩,f.M,V.o.own.kk⟩;rw[hm];rw[<- wp.1]at a;exact a.cf (bL:=(((S++X)++F)++[aa r.co (oh r p),aa r.bY (fq r.aC p.l r.d3 r.ly r.c3 bC.aC),aa r.aC [r.fL,r.fv,int p.az.bU],aa r.c (jb r.kv bC B5 g j u),aa B5 (it bC tJ B6),aa r.dh (lV r.aL p.w.bH p.w.b4 u p.w.au r.aO p.w.b6 r.bX p.w.wr p.w.b8 p.w.aX),aa r.aL (gJ p.w.s r.M.bn),(r.bw,fP p.d.cm p.d.eX r.aF p.d.cb.length),(r.aF,fK p.d.cb)])++(aw g C++(aw j I++(aw u J++(aw B6 Mb++(aw r.bX (fk p.w.cM)++(aw r.fv (ee p.az.aK)++cW r.M p.w.m))))))) (cO fun p=>by simp only[set_cons_zero,set_cons_succ,cons_append,nil_append,countP_append,countP_cons,countP_nil];omega)
 refine Z cN (ay (fun pw=>?_) (fun pw=>?_));have e:p.step dt=p.K3:=by unfold cv.step;rw[if_neg h1,if_neg U,if_neg fp,if_neg p6,if_pos pw]
 rw[Ld]at e;generalize ar:([aa r.co (oh r p),aa r.bY (fq r.aC p.l r.d3 r.ly r.c3 p.c.aC),aa r.aC [r.fL,r.fv,int p.az.bU],aa r.c (r7 r p),aa r.st (it p.c r.aq r.cC),(r.bw,fP p.d.cm p.d.eX r.aF p.d.cb.length),(r.aF,fK p.d.cb)]:LB)++(aw r.bc r.bZ++(aw r.cp r.ep++(aw r.cC r.e5++aw r.fv (ee p.az.aK))))=Rr;have m2:ac H (((S++(F++Rr))++iY r.dh r.aL r.M.bn {p.w with q:=p.c.gW} r.ov r.aO r.bX r.dq)++cW r.M p.w.m):=a.cf (bL:=(((S++(F++Rr))++([aa r.dh (lV r.aL p.w.bH p.w.b4 r.ov p.w.au r.aO p.w.b6 r.bX p.w.wr p.w.b8 p.w.aX),aa r.aL (gJ p.w.s r.M.bn)]++(aw r.ov r.dq++aw r.bX (fk p.w.cM))))++cW r.M p.w.m)) (cO fun p=>by rw[<- ar];unfold k0 li;simp only[cons_append,nil_append,countP_append,countP_cons,countP_nil];omega);have Mc:=Le (w:={p.w with q:=p.c.gW});have Md:=avf {p.w with q:=p.c.gW};have avh:p.rw=({p.w with q:=p.c.gW}:bG).step:=rfl;refine au0 f.w hf.m hf.ny hf.dH f.M m2 ?_;clear a m2;intro H cL u zB B8 J he B9 s8 a;rw[<- avh]at B9 s8 a Mc Md⊢;have hm:p.zl={p with w:=p.rw.2,c:={p.c with gW:=p.rw.2.q}}:=rfl;generalize p.rw=jN at*;obtain⟨b,aE⟩:=jN;simp only at B9 s8 a hm e Mc Md⊢;obtain⟨i5,j1,ma⟩:=Mc
 replace a:ac H (((S++F)++[aa r.dh (lV r.aL aE.bH aE.b4 u aE.au zB aE.b6 B8 aE.wr aE.b8 aE.aX)])++(([aa r.aL (gJ aE.s cL.bn)]++(aw u J++(aw B8 (fk aE.cM)++cW cL aE.m)))++Rr)):=a.cf (cO fun p=>by unfold iY ka;simp only[cons_append,nil_append,countP_append,countP_cons,countP_nil];omega)
 refine ai (dk a 0 rfl (v:=int aE.aX) (jm (n:=4) B9.au.bi rfl 4) ?_);refine⟨p.zl,{r with ov:=u,aO:=zB,bX:=B8,dq:=J,M:=cL},[],2,b,decide (aE.b8=4),aE.aX,rfl,U,U,?_,⟨wZ,rfl⟩,?_,⟨rfl,rfl,rfl,he⟩,?_⟩;rw[e,hm];rw[hm];simp;refine W ⟨?_,?_⟩;rw[hm];exact⟨⟨f.k.kv,f.k.r0,f.k.kB,f.k.jy,f.k.n3,f.k.i,f.k.b,B9.q,f.k.mL,⟨f.k.n.1,Nat.le_trans Md f.k.n.2.1,f.k.n.2.2⟩,f.k.ok,f.k.aq,f.k.y,f.k.r3⟩,⟨f.l.o,f.l.i,f.l.m,f.l.ok,f.l.vz,f.l.n,f.l.mL⟩,f.n,B9,s8,f.hu⟩;rw[hm];rw[<- ar]at a;have a:ac H (((S++F)++[aa r.co [ad r.aL 0,bB .u64 aE.bH,ad r.bY 0,ad r.c 0,ad r.dh 0,ad r.bw 0,int p.st,int p.gg],aa r.bY (fq r.aC p.l r.d3 r.ly r.c3 p.c.aC),aa r.aC [r.fL,r.fv,int p.az.bU],aa r.c (r7 r p),aa r.st (it p.c r.aq r.cC),aa r.dh (lV r.aL aE.bH aE.b4 u aE.au zB aE.b6 B8 aE.wr aE.b8 aE.aX),aa r.aL (gJ aE.s cL.bn),(r.bw,fP p.d.cm p.d.eX r.aF p.d.cb.length),(r.aF,fK p.d.cb)])++(aw r.bc r.bZ++(aw r.cp r.ep++(aw u J++(aw r.cC r.e5++(aw B8 (fk aE.cM)++(aw r.fv (ee p.az.aK)++cW cL aE.m))))))):=by rw[show aE.bH=p.w.bH from j1]at a⊢;exact a.cf (cO fun q=>by simp only[oh,cons_append,nil_append,countP_append,countP_cons,countP_nil];omega)
 exact a;refine Z cN (ay (fun ui=>?_) (fun ui=>?_));have e:p.step dt=p.ud:=by unfold cv.step;rw[if_neg h1,if_pos ui]
 refine ai (dk a 0 rfl (v:=ad r.bw 0) rfl ?_);refine au7 a _ _ (B4 7) YE (by have:=hf.d1;omega) (by have:=hf.d1;omega) hf.d2 hf.kg.2 ?_;have zD:(((S++F)++k0 r p)++li r p)[(S++F).length+0]?=some (aa r.co (oh r p)):=ak (al rfl);refine ai (dk a 0 rfl (v:=ad r.bw 0) rfl ⟨gw a _ zD a _ zD rfl,?_⟩);refine ai (dk a 7 rfl (v:=int p.d.eX) rfl ⟨gw a _ (B4 7) a _ (B4 7) rfl,?_⟩);refine Z kM (ay (fun iL=>?_) (fun iL=>?_));refine Gd ⟨f,a⟩ ?_;intro H h;exact uk (b:=true) (d7:=p.im 3 221) (by rw[e];unfold cv.ud;rw[if_pos (show p.d.eX<=p.d.vm from iL)]) H [] r .eu (W h);exact uk (b:=false) (d7:=p) (by rw[e];unfold cv.ud;rw[if_neg (show¬p.d.eX<=p.d.vm from iL)]) H [] r .eu (W ⟨f,a⟩);exact uk (by unfold cv.step;rw[if_neg h1,if_neg ui,if_neg fp,if_neg p6,if_neg pw]) H [] r .eu (W ⟨f,a⟩);clear a;rintro bN H ⟨b5,r1,X,i,L,cs,e,rfl,avi,avj,lm,Lo,YG,ah,h⟩
 try simp only[c1,c2]
 subst avi;rw[avb]at lm;have Ca:=uk lm;clear uk lm;have avk:=ah.co;rw[<- avk];refine cy (fun bN E=>bN=[ad r1.co 0,int i,.bool L,int e,ad r1.dh 0]/\jC E (S++X) F r1 (if L then {b5 with d:=b5.d.n7 i}else b5)) ?_ ?_;cases L with
 | true=>
  refine dz rfl (ai (dk h.2 0 rfl (v:=ad r1.bw 0) rfl ?_));have Nh:b5.d.cb.length=3:=by rw[Lo.d];exact hf.d1
  refine ava Nh h avj ?_;intro H h;exact⟨rfl,h⟩
 | false=>exact cT rfl ⟨rfl,h⟩
 clear h;rintro bN H ⟨rfl,h⟩
 try simp only[c1,c2]
 have avl:(if L then {b5 with d:=b5.d.n7 i}else b5:cv).w.b8=b5.w.b8:=by split<;>rfl
 generalize (if L then {b5 with d:=b5.d.n7 i}else b5:cv)=ax at*;refine Z dX (ay (fun h2=>?_) (fun h2=>?_));rw[if_pos h2]at Ca;refine Gd h ?_;intro H h;exact Ca H X r1 ah h;rw[if_neg h2]at Ca;refine cy (fun bN E=>bN=[ad r1.co 0,.bool L,.bool cs]/\E=H) ?_ ?_;refine Z cN (ay (fun eh=>?_) (fun eh=>?_));refine ai (dk h.2 5 rfl (v:=int ax.w.b8) (jm (n:=4) h.1.w.au.bi rfl 3) (Z cN (Z (dT eh) ⟨?_,rfl⟩)));rw[YG,avl,decide_eq_decide.2 (show(((b5.w.b8:Nat):Int)=4)↔(i=2/\b5.w.b8=4)from⟨fun e=>⟨U,U⟩,fun e=>U⟩)];refine Z (dl eh) ⟨?_,rfl⟩;rw[YG,decide_eq_false (fun e=>eh U)];rintro bN E ⟨rfl,rfl⟩
 try simp only[c1,c2]
 cases cs with
 | true=>refine dz rfl ?_;refine Gd h ?_;intro H h;exact Ca H X r1 ah h
 | false=>exact cT rfl (Ca _ X r1 ah h)
end
section
variable{F H K M eE S c cc bw fv bE kv bY aL m aC az ga fL co s am aF st t dh avm ab}
theorem avn(aC:Nat)(l:List UInt8)(t r:Int):(eg P 223).f [(0,ad aC 0),(1,a6 l),(2,int t),(4,int r),(9,int (-1))]=some (agg ([ad aC 0,a6 l,int t,aA,int r,aA,.bool false,int 0]++(aR cJ aA++[int (-1),int 0]))):=by kernel_rfl
theorem avo:(eg P 139).f []=some (agg (gV cJ aA aA 0)):=by kernel_rfl
theorem avp(a:Option Addr)(k cc st:Nat)(l:List UInt8)(f:Nat)(r x y:Int):(eg P 137).f [(0,.slice a k cc),(1,agg (lf ⟨l,f,r⟩)),(5,int x),(6,int y),(9,ad st 0)]=some (agg [.slice a k cc,a6 l,bB .u64 f,int r,aA,aA,aA,int x,int y,.bool false,.bool false,ad st 0,int 0]):=by kernel_rfl
theorem avq(aL t:Nat)(am:Int):(eg P 133).f [(0,ad aL 0),(1,bB .u64 t),(2,int am)]=some (agg ([ad aL 0,bB .u64 t,int am,aA]++(aR cJ aA++[int 0,aA,int 0,int 0,int 0]))):=by kernel_rfl
theorem avr(aL t bY c dh bw:Nat):(eg P 129).f [(0,ad aL 0),(1,bB .u64 t),(2,ad bY 0),(3,ad c 0),(4,ad dh 0),(5,ad bw 0),(6,int 1)]=some (agg [ad aL 0,bB .u64 t,ad bY 0,ad c 0,ad dh 0,ad bw 0,int 1,int 0]):=by kernel_rfl
theorem avs{b:Nat}(d:ac H ab)(e:∀E p,ac E (ab++[aa p (fq aC (qg c bE) aA aA aA b)])->K (ad p 0) E):aG P 102 [ad aC 0,a6 bE.c9,int c.lT,int b] H K:=by refine ahE.1 ?_;refine cy (fun a E=>a=[ad aC 0,a6 bE.c9,int (max 0 c.lT),int b]/\E=H) ?_ ?_;refine Z cV (ay (fun h=>?_) (fun h=>?_));rw[show max 0 c.lT=0 by omega];exact⟨rfl,rfl⟩;rw[show max 0 c.lT=c.lT by omega];exact⟨rfl,rfl⟩;rintro a E ⟨rfl,rfl⟩;refine cy (fun a H=>a=[ad aC 0,a6 bE.c9,int ((max 0 (min c.lT 100)).toNat:Int),int b]/\H=E) ?_ ?_;refine Z go (ay (fun h=>?_) (fun h=>?_));rw[show(((max 0 (min c.lT 100)).toNat:Nat):Int)=100 by omega];exact⟨rfl,rfl⟩;rw[show(((max 0 (min c.lT 100)).toNat:Nat):Int)=max 0 c.lT by omega];exact⟨rfl,rfl⟩;rintro a H ⟨rfl,rfl⟩;exact Z (avn _ _ _ _) (b0 d fun p H d=>e H p d)
theorem avt{n:Nat}{d:Nat}(c:bx S kv avm)(b:ac H ab)(e:∀E cc st,ac E ((ab++[aa st (gV cJ aA aA 0)])++[aa cc (lx kv t aA aA aA n d false false st 0)])->K (ad cc 0) E):aG P 103 [kv,agg (lf t),int n,int d] H K:=by
 refine ahF.1 ?_;obtain⟨f,g,h,rfl⟩:=c.ha;refine b0 b fun a H b=>bK b rfl U ?_
 replace b:=b.left
 exact Z avo (b0 b fun st H b=>Z (avp _ _ _ _ _ _ _ _ _) (b0 b fun cc H b=>e H cc st b))
theorem avu{s:dU}(ah:s.br)(a:(s.dv ga am).2.1=0):(s.dv ga am).1=(s.dv ga am).2.2.c4/\(s.dv ga am).2.2.br/\(s.dv ga am).2.2.qh/\0<=am/\am<2:=by unfold dU.dv at a⊢;split;rename_i aH;rw[if_pos aH]at a;cases a;rename_i aH;rw[if_neg aH]at a;split;rename_i b;rw[if_pos b]at a;cases a;exact⟨rfl,⟨by show 0<=am/\am<2;omega,ah.p⟩,fun _=>rfl,U,U⟩
theorem avv(x:Int):d8 x<=16:=by unfold d8;omega
theorem Me:df S aA cJ.aU:=.inl ⟨rfl,rfl⟩
theorem avw(b:bx S kv c.key)(d:bM c.key)(e:c.key.length<=1000000)(f:c.cd.length<=1000000)(g:bE.c9.length<=1000000)(ah:s.br)(i:s.qh)(j:0<=bE.am/\bE.am<2)(l:gX M m)(n:qj S fL fv eE az):
  ql S ⟨co,aL,bY,aC,cc,st,dh,bw,aF,M,kv,aA,aA,aA,aA,fL,fv,aA,aA,aA,aA,aA,aA,aA,[],[],[],[],eE⟩ (FG c bE s m az):=by
 have a:=avv c.eY;have k:(qg c bE).br:=⟨g,by show(max 0 (min c.lT 100)).toNat<=100;omega,⟨by show-2<=(-1:Int);omega,by show(-1:Int)<=1000;omega⟩,(fun _ _ h=>by cases h),fun _=>.inl rfl⟩;exact⟨⟨b,fun _=>trivial,d,e,f,.nil,.nil,.nil,(fun _ h=>by cases h),⟨zero_le _,zero_le _,a,a,zero_le _⟩,p4,Me,.inl ⟨rfl,rfl,rfl⟩,(fun _ _ h=>by cases h)⟩,
  ⟨.nil,.nil,⟨Me,p4⟩,k,(fun h=>by cases h),⟨zero_le _,by show d8 c.eY<=1000;omega,zero_le _⟩,(fun _ h=>by cases h)⟩,n,
  ⟨.nil,p4,Me,.inl ⟨rfl,rfl,rfl⟩,(fun _ h=>by cases h),zero_le _,ah,i,j,fun h=>absurd rfl h,fun _=>rfl,zero_le _,zero_le _,fun h=>absurd rfl h,zero_le _⟩,l,rfl⟩
theorem avx(o:bx S kv c.key)(V:bM c.key)(W:c.key.length<=1000000)(X:c.cd.length<=1000000)(xD:bE.c9.length<=1000000)(ah:s.br)(wo:s.c4<1000)(hm:m.br)(nz:m.eV 1000000)(lh:gX M m)(eZ:qj S fL fv eE az)
  (b:ac H (((S++F)++[aa aL (gJ s M.bn)])++(([aa aC [fL,fv,int az.bU]]++aw fv (ee az.aK))++cW M m)))
  (u:(s.dv bE.ga bE.am).2.1≠0->∀E,ac E (S++F)->K (.tuple [.pointer none,int (s.dv bE.ga bE.am).2.1].toArray) E)
  (i:(s.dv bE.ga bE.am).2.1=0->∀E r,r.aC=aC->r.aL=aL->r.M=M->jC E S F r (FG c bE (s.dv bE.ga bE.am).2.2 m az)->K (.tuple [ad r.co 0,int 0].toArray) E):aG P 44 [agg (jB c kv),ad aC 0,ad aL 0,agg (j8 bE)] H K:=by
 refine agx.1 ?_;obtain⟨w,x,y,rfl⟩:=o.ha;have q:=Lh o;rw[n1];refine b0 b ?_;clear b;intro a H b;rw[n1];refine b0 b ?_;clear b;intro j H b;generalize q4:[aa aC [fL,fv,int az.bU]]++aw fv (ee az.aK)=Nn at*;obtain⟨e,l⟩:∃ e,e=(S++F)++[aa a (jB c (.slice w x y)),aa j (j8 bE)]:=⟨_,rfl⟩;have g:∀ {bL},(e++bL)[(S++F).length+0]?=some (aa a (jB c (.slice w x y))):=by rw[l];exact ak (al rfl)
 have f:∀ {bL},(e++bL)[(S++F).length+1]?=some (aa j (j8 bE)):=by rw[l];exact ak (al rfl)
 replace b:ac H (((e++Nn)++[aa aL (gJ s M.bn)])++cW M m):=b.cf (cO fun p=>by rw[l];simp only[cons_append,nil_append,countP_append,countP_cons,countP_nil];omega)
 refine Z bj (bk b _ (ak (ak f)) rfl (Z bj (bk b _ (ak (ak f)) rfl ?_)));refine Ye wo b ?_;clear b;intro H b;refine Z f5 (Z f6 (Z dX (ay (fun h=>?_) (fun h=>?_))));refine u h H ?_;rw[l]at b;simp only[append_assoc]at b;rw[<- append_assoc]at b;exact b.left;have c8:(s.dv bE.ga bE.am).2.1=0:=Classical.not_not.1 h;have i:=i c8;obtain⟨tK,FH,z,B⟩:=avu ah c8;generalize (s.dv bE.ga bE.am).1=ho at*;generalize (s.dv bE.ga bE.am).2.2=bJ at*;subst tK;clear u h;refine Z bj (bk b _ (ak (ak g)) rfl ?_);refine atz b ?_;clear b;intro H aya b;refine ai (aD b rfl ?_)
 replace b:=b.left
 refine Z bj (bk b _ (ak (ak g)) rfl (Z bj (bk b _ (ak (ak f)) rfl (Z bj (bk b _ (ak (ak f)) rfl ?_)))));have hA:=b;refine LW B hm nz lh b (al (k:=0) rfl) ?_;clear b;intro e1 v ag b hv;refine⟨gw hA _ (ak (ak f)) b _ (ak (ak (ak f))) rfl,gw hA _ (ak (ak g)) b _ (ak (ak (ak g))) q,?_⟩;clear hA;have t:(((m.all (bJ.part bE.am)).length:Nat):Int)=64*(m.size (bJ.part bE.am):Int):=by rw[bh.Fr hm];omega
 refine bg hv.aZ ?_;rw[t]
 replace b:=b.left
 clear hv t;refine Z (WO _ _ _) ?_;obtain⟨C,I⟩:∃C,C=(⟨c.cd,bE.cj,64*(m.size (bJ.part bE.am):Int)⟩:rU):=⟨_,rfl⟩;rw[<- I];rw[aon];refine b0 b ?_;clear b;intro R H b;refine dn b (_+0) (al rfl) rfl rfl rfl ?_;clear b;intro H b;rw[Go.Ab.bp]at b
 replace b:ac H ((((e++Nn)++[aa aL (gJ bJ M.bn)])++cW M m)++[aa R (lf C)]):=b
 refine Z bj (bk b _ (ak (ak (ak f))) rfl (Z bj (bk b _ (ak (ak (ak g))) rfl ?_)));have J:=b;refine avs b ?_;clear b;intro yF bY b;have L:=b;have ayb:∀ {bL},(((((e++Nn)++[aa aL (gJ bJ M.bn)])++cW M m)++[aa R (lf C)])++bL)[(((e++Nn)++[aa aL (gJ bJ M.bn)])++cW M m).length+0]?=some (aa R (lf C)):=ak (al rfl);refine Z bj (bk b _ (ak (ak (ak (ak g)))) rfl ⟨gw J _ (ak (ak (ak g))) L _ (ak (ak (ak (ak g)))) q,?_⟩);refine bK b rfl U ⟨jf J L rfl,?_⟩;have eh:=b;refine avt o b ?_;clear b;intro wG cc st b;have N:=b;refine Z bj (bk b _ (ak (ak (ak (ak (ak (ak f)))))) rfl ⟨gw eh _ (ak (ak (ak (ak f)))) N _ (ak (ak (ak (ak (ak (ak f)))))) rfl,gw J _ (ak (ak (ak f))) L _ (ak (ak (ak (ak f)))) rfl,?_⟩);refine Z (avq _ _ _) ?_;refine Z bj (bk b _ (ak (ak (ak (ak (ak (ak g)))))) (v:=int c.ly) rfl ⟨gw eh _ (ak (ak (ak (ak g)))) N _ (ak (ak (ak (ak (ak (ak g)))))) q,gw J _ (ak (ak (ak g))) L _ (ak (ak (ak (ak g)))) q,?_⟩);clear J L eh;refine au4 (g6:=3) b ?_;clear b;intro aF bw ayc b;rw[show(max 1 (min (3:Int) 8)).toNat=3 by decide]at b;refine⟨gw N _ (ak (ak (ak (ak (ak (ak f)))))) b _ (ak (ak (ak (ak (ak (ak (ak f))))))) rfl,?_⟩
 clear N;rw[n1];refine b0 b ?_;clear b;intro dh Xf b;refine Z (avr _ _ _ _ _ _) ?_;rw[n1];refine b0 b ?_;clear b;intro co H b;refine i H ⟨co,aL,bY,aC,cc,st,dh,bw,aF,M,.slice w x y,aA,aA,aA,aA,fL,fv,aA,aA,aA,aA,aA,aA,aA,[],[],[],[],eE⟩ rfl rfl rfl ⟨avw o V W X xD FH z B lh eZ,?_⟩;subst l;rw[<- q4]at b;subst I;exact(b.cf (bL:=((((S++F)++[aa co [ad aL 0,bB .u64 bJ.c4,ad bY 0,ad cc 0,ad dh 0,ad bw 0,int 1,int 0],aa bY (fq aC (qg c bE) aA aA aA (d8 c.eY)),aa aC [fL,fv,int az.bU],aa cc (lx (.slice w x y) ⟨c.cd,bE.cj,64*(m.size (bJ.part bE.am):Int)⟩ aA aA aA (d8 c.eY) (d8 c.eY) false false st 0),aa st (gV cJ aA aA 0),aa dh ([ad aL 0,bB .u64 bJ.c4,int bE.am,aA]++(aR cJ aA++[int 0,aA,int 0,int 0,int 0])),aa aL (gJ bJ M.bn),(bw,fP 0 (max 1 (min c.ly 1000000)) aF 3),(aF,fK (replicate 3 0))])++(aw fv (ee az.aK)++cW M m))++[aa a (jB c (.slice w x y)),aa j (j8 bE),aa R (lf ⟨c.cd,bE.cj,64*(m.size (bJ.part bE.am):Int)⟩)])) (cO fun p=>by simp only[cons_append,nil_append,countP_append,countP_cons,countP_nil];omega)).left
end
end J
