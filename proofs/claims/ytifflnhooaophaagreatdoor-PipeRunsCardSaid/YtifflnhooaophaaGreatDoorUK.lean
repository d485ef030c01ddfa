/- texts of the kp, du behind the jV -/
import Derived.Test.YtifflnhooaophaaGreatDoorUJ
set_option linter.unusedVariables false
set_option linter.unusedSimpArgs false
set_option linter.unusedSectionVars false
set_option maxHeartbeats 4000000
set_option maxRecDepth 100000
open List Nat
namespace J
open Go Go.Ab
variable[c0:cH]
section
variable{B F H K S c aX f l n b6 o p bb bq r au b8 b4 cM bX aO bH v w wr x ae}{m:bh}
theorem apP(a:dx aO=true)(b:dx bX=true):(hp l bH b4 r au aO b6 bX wr b8 aX).all dx=true:=by
 show(true&&(true&&(true&&(true&&(aR au aO++[int b6,bX,int wr,int b8,int aX]).all dx))))=true;rw[all_append,q3 a];show(true&&(true&&(dx bX&&(true&&(true&&(true&&true))))))=true
 grind
theorem nv.mF(h:nv S v cM):dx v=true:=by rcases h with⟨rfl,rfl⟩|⟨p,k,c,j,w,all,rfl,_⟩<;>rfl
theorem ih.mF(h:ih S w B):(B.hF w).all dx=true:=apP h.aO.mF h.cM.mF
theorem bh.Fr(a:m.br):(m.all bq).length=64*m.size bq:=bh.ER a _
theorem apQ(ar:ih S w B)(u:0<=w.au.cY)(W:w.m.eV 1000000)(e:h8 H S F w B)(l:∀E cZ,B.en cZ->ih S w.py cZ->h8 E S F w.py cZ->K (.tuple [].toArray) E):aG P 142 [ad B.c 0] H K:=by
 refine ail.1 ?_;have X:=ar.au.bi;refine ai (dk e 3 rfl rfl (ai (dk e 3 rfl rfl (apu ar.s ar.m.ok W e ar.own (w5 B w) ?_))));intro H bW J e hv;refine ai (KU X J e ?_);intro H e
 replace e:h8 H S F w.ig (B.at bW):=e
 have d:ih S w.ig (B.at bW):=ar.put (BB ar.m BF) hv;have o:=iF.gw J;have p:w.ig.au=w.au:=rfl;have v:w.ig.s=w.s:=rfl;have y:w.ig.b4=w.b4:=rfl;unfold bG.py at l;generalize w.ig=aM at*;rw[show B.c=(B.at bW).c from rfl];generalize B.at bW=f at*;have g:=d.au.bi;refine ai (dk e 3 rfl (Fm g) (Z dX (ay (fun h=>?_) (fun h=>?_))));rw[if_pos h]at l;exact l H f o d e;rw[if_neg h]at l;refine ai (dk e 3 rfl rfl (ai (dk e 3 rfl rfl (apq d.m.ok e (w5 f aM) ?_))));intro H apR fc e i;rw[v,y]at i;have z:=bh.VU (bq:=w.s.part w.b4) d.m.b;have u1:=bh.Fr (bq:=w.s.part w.b4) d.m.ok;have M:=bh.tR (part:=w.s.part w.b4) d.m.ok;generalize aM.m.all (w.s.part w.b4)=b at*;refine cy (fun N E=>N=[ad f.c 0,.bool (decide ((b.length:Int)<w.au.cY\/hP (b.take w.au.cY.toNat)≠w.au.bw))]/\h8 E S F aM f) ?_ ?_;refine bg i.aZ (ai (Z bj (dk e.left 3 rfl (show(f.hF aM)[0+4+2]?=some (int w.au.cY) by rw[<- p];rfl) (Z cV (ay (fun k=>?_) (fun k=>?_))))));exact Z (dT k) (⟨by simp[k],e.left⟩);refine ai (Z bj (dk e.left 3 rfl (show(f.hF aM)[0+4+2]?=some (int w.au.cY) by rw[<- p];rfl) ?_));obtain⟨fs,V,i1⟩:=qP i.gd (n:=w.au.cY.toNat) U;rw[Int.toNat_of_nonneg u]at V;refine Z V ?_;have r:=(i1 _ i.gd).app' (ab:=(((S++F)++f.e7 aM)++cR f.L aM.m));obtain⟨a,k6,bC,rfl⟩:=r.ha;refine el e (TL _ _ _ _) ?_
 have C:=e;intro q dc e;have I:=e;refine JA (j:=_+0) e (al rfl) r.app (fun x ey=>z x (mem_of_mem_take ey)) (by rw[length_take];omega) ?_;intro e1 e;refine ai (Z bj ?_);have t:((((S++F)++f.e7 aM)++cR f.L aM.m)++aw apR fc)[(S++F).length+3]?=some (aa f.c (f.hF aM)):=ak (ak (al rfl));refine fe e _ (ak t) (show _=aN w.au.bw by rw[<- p];exact apH g) a1 U (⟨gw I _ (ak t) e _ (ak t) d.mF,t1 (E:=H) C t _,?_⟩);exact Z (Bq _ lP U) (Z (dl k) (⟨by simp[k],e.left.left⟩));rintro N H ⟨rfl,e⟩
 try simp only[c1,c2]
 refine ay (fun k=>?_) (fun k=>?_);rw[if_pos k]at l;refine ai (hc e 3 rfl rfl (by simp_all[iF.hF,q9]) (KT g 153) ?_);intro H e;exact l H f o ⟨d.q,d.au,d.aO,d.cM,d.n4,d.s,d.m,d.own,d.b6,d.wr⟩ e;rw[if_neg k]at l;refine ai (hc e 3 rfl rfl (by simp_all[iF.hF,q9]) (Fo g 4) ?_);intro H e;exact l H f o ⟨d.q,d.au,d.aO,d.cM,d.n4,d.s,d.m,d.own,d.b6,d.wr⟩ e
theorem nv.cons(h:nv S v (x::ae)):x.length=64/\∃(p k c j:Nat) (w:Bool) (all:List LI),v=am p (k*64) (ae.length+1) c/\(c=128\/c=129)/\x::ae=all.drop k/\k<all.length/\S[j]?=some (p,⟨fk all,w⟩)/\(∀y∈all,y.length=64)/\((fk all).drop (k*64)).take 64=aN x:=by
 rcases h with⟨_,h⟩|⟨p,k,c,j,w,all,g,i,r,l,d,q⟩
 cases h;have a:k<all.length:=aT
 have b:all[k]=x:=by grind[drop_eq_getElem_cons]
 refine⟨b▸d _ (getElem_mem a),p,k,c,j,w,all,g,q,i,a,l,d,?_⟩;have e:=u6 (f:=aN) (n:=64) (o:=0) (m:=64) (fun s b=>a1) a U;rw[Nat.add_zero]at e;unfold fk;rw[e,drop_zero,b];exact take_of_length_le aT
theorem apS(a:c=128\/c=129):hX 64 (am p o (n+1) c) (some (int 1)) none none=some (am p (o+64) n c):=by
 have e:beq (n+1) (n+1)=true:=beq_refl _;rcases a with rfl|rfl
 rfl;show some (Value.slice (some ⟨p,o+1*64,none⟩) (n+1-1) (cond (false||beq (n+1) (n+1)) 129 128))=_
 grind
theorem apT{s:dU}(h:(s.as m bH f).2=0):(f {m with dt:=s.h7}).2=0:=by grind[dU.as]
theorem VX(h:(m.fh bq bb x).2=0):bb<m.size bq:=by
 unfold bh.fh at h;split at h;omega;rename_i a;have a:=Classical.not_not.1 a;unfold bh.gK at a;split at a;cases a;split at a;cases a
 simp_all[bh.size]
theorem nv.tail(h:nv S v (x::ae)):∃ap,hX 64 v (some (int 1)) none none=some ap/\nv S ap ae:=by
 obtain⟨e,p,k,c,j,w,all,rfl,a,f,g,b,d,_⟩:=h.cons;refine⟨_,apS a,.inr ⟨p,k+1,c,j,w,all,?_,?_,U,b,d,a⟩⟩
 simp_all
 grind[drop_eq_getElem_cons]
theorem apU(ar:ih S w B)(g:w.cM=x::ae)(C:w.m.eV 1000000)(a:h8 H S F w B)(f:∀E cZ,B.en cZ->ih S (w.fill x ae) cZ->h8 E S F (w.fill x ae) cZ->K (.tuple [].toArray) E):aG P 143 [ad B.c 0] H K:=by
 refine aim.1 ?_;have i:=ar.au.bi;have e:=ar.cM;rw[g]at e;have l:bM x:=ar.n4 x a1;obtain⟨u,p,k,c,j,W,all,n,X,h2,I,J,iL,j0⟩:=e.cons;refine ai (dk a 3 rfl rfl (ai (dk a 3 rfl rfl (ai (dk a 3 rfl (KS i) (ai (dk a 3 rfl (KR i) ?_)))))));rw[n];refine Z (ez U U) (fe a j (ak (ak (ak J))) (show _=aN x by simp_all) a1 U (apt ar.s ar.m.ok C u a ar.own (w5 B w) ?_));intro H bW r a L;refine ai (KU i r a ?_);intro H a
 replace a:h8 H S F (w.jA x) (B.at bW):=a
 have b:ih S (w.jA x) (B.at bW):=ar.put (BB ar.m (KV u l)) L;have t:B.en (B.at bW):=iF.gw r;have d:=b.au.bi;refine ai (dk a 3 rfl (Fm d) (Z cN ?_));unfold bG.fill at f;refine ay (fun h=>?_) (fun h=>?_);rw[if_pos h]at f;have M:(w.wr:Int)<w.m.size (w.s.part w.s.b4):=VX (m:={w.m with dt:=w.s.h7}) (apT h);have N:=bh.tR ar.m.ok (part:=w.s.part w.s.b4);refine ai (dk a 3 rfl (KR d) ?_);obtain⟨ap,V,z⟩:=e.tail;refine Z V (ai (hc a 3 rfl z.du (by simp_all[iF.hF,q9]) (VW d ap) ?_));intro H a;refine ai (dk a 3 (v:=int w.wr) rfl (KS d) (Z (v:=int ((w.wr+1:Nat):Int)) (by grind[f2]) (ai (hc a 3 (o:=0+43) rfl rfl (by simp_all[q9]) (apJ d (w.wr+1)) ?_))));intro H a;exact f H {B.at bW with bX:=ap} ⟨rfl,rfl,rfl,rfl,rfl,r⟩ ⟨b.q,b.au,b.aO,z,fun y fS=>ar.n4 y aT,b.s,b.m,b.own,b.b6,aT⟩ a;rw[if_neg h]at f;exact f H _ t b a
end
section
variable{B F H K S a b bs c aq e nw kC au cM t v w}
def bG.n5(w:bG)(m:fi):Int:=if¬dy m then 192 else if m.cY>64*(w.size:Int)then 145 else 0
def bG.vq(w:bG)(m:fi):bG:=if w.n5 m=0 then {w with au:=m,b8:=1}else w
theorem bG.apV(w:bG)(m:fi):w.q8 m={w.vq m with aX:=w.n5 m}:=by
 unfold bG.q8 bG.vq;by_cases h:dy m;by_cases a:m.cY>64*(w.size:Int);have e:w.n5 m=145:=by simp_all[bG.n5]
 simp_all
 have e:w.n5 m=0:=by simp_all[bG.n5]
 simp_all
 have e:w.n5 m=192:=by simp_all[bG.n5]
 simp_all
theorem ih.aX(h:ih S w B)(e:Int):ih S {w with aX:=e} B:=⟨h.q,h.au,h.aO,h.cM,h.n4,h.s,h.m,h.own,h.b6,h.wr⟩
theorem apW{n:Nat}(h:n<=4096):(cz P .mul t c).f (.int .i64 64) (int n)=some (int (64*(n:Int))):=y9 U U
theorem apX(ar:ih S w B)(b:kC.br)(i:df S aq kC.aU)(a:h8 H S F w B)(d:∀E cZ,B.en cZ->ih S (w.vq kC) cZ->h8 E S F (w.vq kC) cZ->K (int (w.n5 kC)) E):aG P 207 [ad B.c 0,agg (int nw::aR kC aq)] H K:=by
 refine ajm.1 ?_;have p:=ar.au.bi;rw[n1];refine b0 a ?_;intro o H a
 replace a:=Fp a
 have f:((int nw::aR kC aq).drop (0+1)).take 37=aR kC aq:=take_of_length_le (Nat.le_of_eq (b7 b.bi));have g:(⟨int nw::aR kC aq,true⟩:ef).cells.all dx=true:=by show(true&&(aR kC aq).all dx)=true;rw[q3 i.mF];rfl
 refine Z bj (mg a f (b7 b.bi) U (y0 b i.app.app.app a ?_));intro H a;refine Z fX ?_;by_cases j:dy kC;refine cT (by simp[j]) (Z bj (Z bj (aD a rfl (ai (dk a 3 rfl rfl (ai (dk a 3 rfl rfl ?_)))))));have k:=a;refine KJ a (w5 B w) ?_;intro t a;refine⟨jf k a g,?_⟩;have n:=bh.tR ar.m.ok (part:=w.s.part w.b4);refine Z (apW n) (Z go (ay (fun h=>?_) (fun h=>?_)));have e:w.n5 kC=145:=by unfold bG.n5;rw[if_neg (by simp[j])];exact if_pos h
 unfold bG.vq at d;rw[e,if_neg bT]at d;exact d t B .eu ar (vp a);have e:w.n5 kC=0:=by unfold bG.n5;rw[if_neg (by simp[j])];exact if_neg h
 unfold bG.vq at d;rw[e,if_pos rfl]at d;refine Z bj (mg a f (b7 b.bi) U (ai (kx a ((S++(F++[aa o (int nw::aR kC aq)])).length+3) (ak (al rfl)) (b7 b.bi) (by simp_all[iF.hF,q9]) (hB i.du) ?_)));intro H a;rw[set_append_left _ _ (by simp[iF.e7,Fq];omega),Go.Ab.bp]at a;rw[show(B.hF w).take (0+4)++(es (agg (aR kC aq))++(B.hF w).drop (0+4+37))=hp B.l w.bH w.b4 B.A.r kC aq w.b6 B.bX w.wr w.b8 w.aX from apK p b.bi]at a
 replace a:h8 H S (F++[aa o (int nw::aR kC aq)]) {w with au:=kC} {B with aO:=aq}:=a
 refine ai (hc a 3 rfl rfl (by rw[iF.hF,q9 b.bi];omega) (Fo b.bi 1) ?_);intro H a;exact d H {B with aO:=aq} ⟨rfl,rfl,rfl,rfl,rfl,.eu⟩ ⟨ar.q,b,i,ar.cM,ar.n4,ar.s,ar.m,ar.own,ar.b6,ar.wr⟩ (vp a);refine dz (by simp[j]) ?_;have e:w.n5 kC=192:=by simp_all[bG.n5]
 unfold bG.vq at d;rw[e,if_neg bT]at d;exact d H B .eu ar (vp a)
def bG.ra(w:bG)(a:Int)(bs:LI):Int:=if a≠w.b6\/(gl w.au a).2=0\/(bs.length:Int)≠(gl w.au a).2 then 192 else 0
def bG.ua(w:bG)(a:Int)(bs:LI):bG:=if w.ra a bs=0 then {w with cM:=iq bs,b6:=w.b6+1}else w
theorem bG.apY(w:bG)(a:Int)(bs:LI):w.body a bs={w.ua a bs with aX:=w.ra a bs}:=by
 unfold bG.body bG.ua;by_cases h:a≠w.b6\/(gl w.au a).2=0\/(bs.length:Int)≠(gl w.au a).2
 simp_all[bG.ra]
 have e:w.ra a bs=0:=by unfold bG.ra;omega
 grind
theorem apZ(h:(gl au a).2≠0):dy au/\0<=a/\a<au.aU.length/\au.aU.length<=64/\0<=(gl au a).2/\(gl au a).2<=1024:=by
 unfold gl at h⊢;split at h;omega;rename_i c;have b:=Classical.byContradiction fun d=>c (.inl d)
 have⟨cr,ej,e,f⟩:=Bw (i:=a) b U U;have⟨_,_,_,_,_,g,j,_,_,k⟩:=b
 grind
theorem ap0(h:bM b):∀s∈iq b,bM s:=by
 intro s ah;obtain⟨k,_,rfl⟩:=List.mem_map.1 ah;intro x a;rcases mem_append.1 a with c|c
 grind
 simp_all
theorem ap1(b:dK 64 v cM.length (fk cM))(d:∀s∈cM,s.length=64):nv (aw v (fk cM)) v cM:=by
 rcases b with⟨rfl,h,_⟩|⟨p,h,_⟩
 exact .inl ⟨rfl,length_eq_zero_iff.1 h⟩;have a:∃c,v=am p 0 cM.length c/\(c=128\/c=129):=aT
 obtain⟨c,rfl,a⟩:=a;exact .inr ⟨p,0,c,0,true,cM,ao,rfl,U,rfl,d,a⟩
theorem ap2(ar:ih S w B)(z:bx S v bs)(J:bM bs)(b:h8 H S F w B)(t:∀E cZ X,B.en cZ->ih (S++X) (w.ua a bs) cZ->h8 E (S++X) F (w.ua a bs) cZ->K (int (w.ra a bs)) E):aG P 208 [ad B.c 0,agg [int a,v]] H K:=by
 refine ajn.1 ?_;have l:=ar.au.bi;have i:∀E cZ,B.en cZ->ih S (w.ua a bs) cZ->h8 E S F (w.ua a bs) cZ->K (int (w.ra a bs)) E:=fun E cZ g n u=>t E cZ [] g n.app (by rw[append_nil];exact u)
 rw[n1];refine b0 b ?_;intro o H b
 replace b:=Fp b
 have u:∀ {L},((((S++(F++[aa o [int a,v]]))++B.e7 w)++L))[S.length+(F.length+0)]?=some (aa o [int a,v]):=ak (ak (al (al rfl)));refine ai (fe b ((S++(F++[aa o [int a,v]])).length+3) (ak (al rfl)) (apG l) (b7 l) U (Z bj (aD b rfl (Kq ar.au ar.aO.app.app.app b ?_))));intro H b;refine Z rfl (Z rfl ?_);have f:(a≠w.b6\/(gl w.au a).2=0\/(bs.length:Int)≠(gl w.au a).2)->∀E,h8 E S (F++[aa o [int a,v]]) w B->K (int 192) E:=by
  intro h E b;have e:w.ra a bs=192:=by simp_all[bG.ra]
  unfold bG.ua at i;rw[e,if_neg bT]at i;exact i E B .eu ar (vp b)
 refine cy (fun C E=>C=[ad B.c 0,ad o 0]/\¬(a≠w.b6\/(gl w.au a).2=0\/(bs.length:Int)≠(gl w.au a).2)/\h8 E S (F++[aa o [int a,v]]) w B) ?_ ?_;refine Z bj (aD b rfl (ai (dk b 3 rfl (KQ l) (Z dX (ay (fun h=>?_) (fun h=>?_))))));exact Z (dT h) (Z ja (dz rfl (f (.inl h) H b)));refine Z cN (Z (dl h) (ay (fun g=>?_) (fun g=>?_)));exact Z (dT g) (dz rfl (f (.inr (.inl g)) H b));refine Z bj (aD b rfl (bg z.aZ (Z dX (Z (dl g) (ay (fun n=>?_) (fun n=>?_))))));exact f (.inr (.inr n)) H b;exact⟨rfl,fun I=>U,b⟩;rintro C H ⟨rfl,d,b⟩
 try simp only[c1,c2]
 have x:=fun h=>d (.inr (.inl h))
 have M:=Classical.byContradiction fun h=>d (.inl h)
 have N:=Classical.byContradiction fun h=>d (.inr (.inr h))
 obtain⟨_,eA,fC,g3,g4,g5⟩:=apZ x;have e:w.ra a bs=0:=by simp_all[bG.ra]
 unfold bG.ua at t;rw[e,if_pos rfl]at t;refine Z bj (aD b rfl (apC b z.app.app.app U ?_));intro H vs b y
 replace b:=apL b
 have r:nv (S++aw vs (fk (iq bs))) vs (iq bs):=by
  have:=ap1 y VQ;rcases this with h|⟨p,k,c,j,aE,all,g,n,u,I,V⟩
  exact .inl h;exact .inr ⟨p,k,c,S.length+j,aE,all,g,n,u,al I,V⟩
 refine ai (hc b 3 rfl r.du (by simp_all[iF.hF,q9]) (VW l vs) ?_);intro H b;refine ai (dk b 3 rfl (KQ l) ?_);have W:=ar.b6;refine Z (by grind[f2]) (ai (hc b 3 rfl rfl (by grind[q9]) (apI l (w.b6+1)) ?_));intro H b;exact t H {B with bX:=vs} _ ⟨rfl,rfl,rfl,rfl,rfl,.eu⟩ ⟨ar.q.app,ar.au,ar.aO.app,r,ap0 J,ar.s,ar.m,ar.own,aT,ar.wr⟩ (vp b)
end
section
variable{B F H K R S l aF v w bL jl}
theorem ap3(x:Value):kF 316 (gy P 316) (.iface 313 x)=some (.tuple #[agg (fF P 316),.bool false]):=ao
theorem VY(x:Value):kF 316 (gy P 316) (.iface 316 x)=some (.tuple #[x,.bool true]):=ao
theorem VZ(x:Value):kF 316 (gy P 316) (.iface 327 x)=some (.tuple #[agg (fF P 316),.bool false]):=ao
theorem V6(x:Value):kF 316 (gy P 316) (.iface 320 x)=some (.tuple #[agg (fF P 316),.bool false]):=ao
theorem ap4(x:Value):kF 327 (gy P 327) (.iface 313 x)=some (.tuple #[agg (fF P 327),.bool false]):=ao
theorem ap5(x:Value):kF 327 (gy P 327) (.iface 316 x)=some (.tuple #[agg (fF P 327),.bool false]):=ao
theorem ap6(x:Value):kF 327 (gy P 327) (.iface 327 x)=some (.tuple #[x,.bool true]):=ao
theorem ap7(x:Value):kF 327 (gy P 327) (.iface 320 x)=some (.tuple #[agg (fF P 327),.bool false]):=ao
theorem ap8(x:Value):kF 320 (gy P 320) (.iface 313 x)=some (.tuple #[agg (fF P 320),.bool false]):=ao
theorem ap9(x:Value):kF 320 (gy P 320) (.iface 316 x)=some (.tuple #[agg (fF P 320),.bool false]):=ao
theorem aqa(x:Value):kF 320 (gy P 320) (.iface 320 x)=some (.tuple #[x,.bool true]):=ao
theorem V7(x:Value):us 316 (.iface 316 x)=some x:=ao
theorem aqb(x:Value):us 320 (.iface 320 x)=some x:=ao
theorem Fs:fF P 327=[int 0,aA]:=ao
theorem aqc(a:w.au.bw.length=32)(b:h8 H S F w B)(e:Int)(d:∀E,h8 E S F {w with aX:=e} B->K undef E):a7 (d9 1 (ad B.c 45) (int e) H) K:=
 hc b 3 rfl rfl (by simp_all[iF.hF,q9]) (KT a e) d
theorem aqd(ar:ih S w B)(d:rV S aF [v])(b:h8 H S F w B)(fD:∀E cZ X,B.en cZ->ih (S++X) (w.gv aF) cZ->h8 E (S++X) F (w.gv aF) cZ->K (.tuple [].toArray) E):aG P 144 [ad B.c 0,v] H K:=by
 apply aio;unfold IX;have x:=ar.au.bi;have o:∀E cZ,B.en cZ->ih S (w.gv aF) cZ->h8 E S F (w.gv aF) cZ->K (.tuple [].toArray) E:=fun E cZ C h2 eh=>fD E cZ [] C h2.app (by rw[append_nil];exact eh)
 refine b0 b ?_;intro ax H b
 replace b:=Fp b
 replace b:h8 H S (F++[aa ax [ad B.c 0]]) w B:=b
 have h2:∀ {I p ub cZ aE},((((p++((F++[aa ax [ad B.c 0]])++ub))++iF.e7 cZ aE)++I))[p.length+(F.length+0)]?=some (aa ax [ad B.c 0]):=ak (ak (al (ak (al rfl))));have axB:∀ {I p cZ aE},((((p++(F++[aa ax [ad B.c 0]]))++iF.e7 cZ aE)++I))[p.length+(F.length+0)]?=some (aa ax [ad B.c 0]):=ak (ak (al (al rfl)));refine aD b rfl (ai (dk b 3 rfl (BD x) (Z cN ?_)));have gD:∀(e:Int) (aM:bG) (l:iF) (J:an) (S1:LB) (X:LB),S1=S++X->B.en l->ih S1 aM l->h8 J S1 (F++[aa ax [ad B.c 0]]) aM l->w.gv aF={aM with aX:=e}->
   a7 (d9 1 (ad l.c 45) (int e) J) fun u g=>K (.tuple [].toArray) g:=by
  intro e aM l J S1 X ib c7 r f n;subst ib;refine aqc r.au.bi f e ?_;intro g L;refine fD g l X c7 ?_ ?_;rw[n];exact r.aX e;rw[n];exact vp L
 refine ay (fun h=>?_) (fun h=>?_)
 -- zO waits
 have i:w.b8=0:=U
 have j:w.gv aF={w with aX:=192}->a7 (db (ad ax 0) H) fun M N=>
   bD (hI M) fun V=>bD (gh 45 V) fun W=>a7 (d9 1 W (.int .i64 192) N) fun Ft aqe=>K (.tuple [].toArray) aqe:=by
  intro n;exact aD b rfl (ai (gD 192 w B H S [] aT .eu ar b n))
 cases aF with
 | kl a=>
  have d:[v]=[.iface 313 (agg [int a])]:=d;injection d with d _
  subst d;exact Z (ap3 _) (Z (show _=some (Value.bool false)from rfl) (cT rfl (j (by unfold bG.gv;simp_all))))
 | body a bs=>
  obtain⟨fs,d,_⟩:=d;injection d with d _
  subst d;exact Z (VZ _) (Z (show _=some (Value.bool false)from rfl) (cT rfl (j (by unfold bG.gv;simp_all))))
 | gD=>
  have d:[v]=[.iface 320 (agg [])]:=d;injection d with d _
  subst d;exact Z (V6 _) (Z (show _=some (Value.bool false)from rfl) (cT rfl (j (by unfold bG.gv;simp_all))))
 | jj nw y=>
  obtain⟨aq,d,fR,ok⟩:=d;injection d with d _
  subst d;refine Z (VY _) (Z (show _=some (Value.bool true)from rfl) (dz rfl (aD b rfl (aD b rfl (Z (V7 _) ?_)))));have f:=b;refine apX ar ok fR b ?_;intro g cZ c7 k b;refine⟨jf f b rfl,?_⟩;refine ai ?_;rw[<- c7.c];exact gD (w.n5 y) (w.vq y) cZ g S [] a1 c7 k b (by unfold bG.gv;rw[if_pos i];exact w.apV y)
 have i:¬w.b8=0:=U
 cases aF with
 | body a bs=>
  obtain⟨fs,d,t,rW⟩:=d;injection d with d _
  subst d;obtain⟨i2,f1,nP,ku⟩:=t.ha;refine Z (ap6 _) (Z (show _=some (agg [int a,fs])from rfl) (Z (show _=some (Value.bool true)from rfl) ?_));rw[Fs];refine b0 b ?_;intro z H b;refine dn b (_+0) (al rfl) rfl rfl (by rw[ku];rfl) ?_;intro H b
  replace b:=Fp b.bp
  replace b:h8 H S ((F++[aa ax [ad B.c 0]])++[aa z [int a,fs]]) w B:=b
  refine dz rfl (aD b rfl (aD b rfl (bK b rfl U ?_)));have f:=b;refine ap2 ar t rW b ?_;intro g cZ X c7 k b;refine⟨jf f b rfl,?_⟩;refine ai ?_;rw[<- c7.c];exact gD (w.ra a bs) (w.ua a bs) cZ g (S++X) X rfl c7 k (vp b) (by unfold bG.gv;rw[if_neg i];exact w.apY a bs)
 | kl a=>
  have d:[v]=[.iface 313 (agg [int a])]:=d;injection d with d _
  subst d;refine Z (ap4 _) (Z (show _=some (agg (fF P 327))from rfl) (Z (show _=some (Value.bool false)from rfl) ?_));rw[Fs];refine b0 b ?_;intro z H b;refine dn b (_+0) (al rfl) rfl rfl rfl ?_;intro H b;have b:=b.bp.left;exact cT rfl (Z (ap8 _) (Z (show _=some (Value.bool false)from rfl) (cT rfl (aD b rfl (ai (gD 192 w B H S [] a1 .eu ar b (by unfold bG.gv;simp_all)))))))
 | jj nw y=>
  obtain⟨aq,d,fR,ok⟩:=d;injection d with d _
  subst d;refine Z (ap5 _) (Z (show _=some (agg (fF P 327))from rfl) (Z (show _=some (Value.bool false)from rfl) ?_));rw[Fs];refine b0 b ?_;intro z H b;refine dn b (_+0) (al rfl) rfl rfl rfl ?_;intro H b;have b:=b.bp.left;exact cT rfl (Z (ap9 _) (Z (show _=some (Value.bool false)from rfl) (cT rfl (aD b rfl (ai (gD 192 w B H S [] a1 .eu ar b (by unfold bG.gv;simp_all)))))))
 | gD=>
  have d:[v]=[.iface 320 (agg [])]:=d;injection d with d _
  subst d;refine Z (ap7 _) (Z (show _=some (agg (fF P 327))from rfl) (Z (show _=some (Value.bool false)from rfl) ?_));rw[Fs];refine b0 b ?_;intro z H b;refine dn b (_+0) (al rfl) rfl rfl rfl ?_;intro H b;have b:=b.bp.left;refine cT rfl (Z (aqa _) (Z (show _=some (Value.bool true)from rfl) (dz rfl (Z (aqb _) (aD b rfl (ai (dk b 3 rfl (KQ x) (aD b rfl (ai (Z bj (dk b 3 rfl (apF x) (bg ar.aO.aZ (Z cV (ay (fun C=>?_) (fun C=>?_)))))))))))))));exact aD b rfl (ai (gD 192 w B H S [] a1 .eu ar b (by unfold bG.gv;simp_all)));refine aD b rfl (ai (hc b 3 rfl rfl (by simp_all[iF.hF,q9]) (Fo x 3) ?_));intro H b;have n:w.gv .gD={w with b8:=3}:=by unfold bG.gv;grind
  rw[n]at o;exact o H B .eu ⟨ar.q,ar.au,ar.aO,ar.cM,ar.n4,ar.s,ar.m,ar.own,ar.b6,ar.wr⟩ (vp b)
theorem mW.tail(h:mW S R (aF::l)):∃a c,R.aI=[a]::c/\rV S aF [a]/\Al (rV S) l c:=by
 have d:=h.pv;generalize e:R.aI=f at d;cases d with
 | cons g i=>
  rename_i b m;have:b.length=1:=h.kW.w0 b a1
  grind[length_eq_one_iff]
theorem aqf(h:ac H (((S++F)++jl)++bL)):ac H ((S++F)++(jl++bL)):=by rw[<- append_assoc];exact h
theorem aqg(ar:ih S w B)(I:0<=w.au.cY)(J:w.m.eV 1000000)(d:h8 H S F w B)(g:∀E cZ X,B.en cZ->ih (S++X) w.step.2 cZ->h8 E (S++X) F w.step.2 cZ->K (.bool w.step.1) E):aG P 66 [ad B.c 0] H K:=by
 refine agZ.1 ?_;have t:=ar.au.bi;have b:∀E cZ,B.en cZ->ih S w.step.2 cZ->h8 E S F w.step.2 cZ->K (.bool w.step.1) E:=fun E cZ u M eh=>g E cZ [] u M.app (by rw[append_nil];exact eh)
 refine cy (fun bN E=>bN=[ad B.c 0,.bool (decide (w.aX≠0\/w.b8=4))]/\E=H) ?_ ?_;refine ai (dk d 3 rfl (Fm t) (Z dX (ay (fun h=>Z (dT h) (⟨by simp[h],rfl⟩)) (fun h=>?_))));refine ai (dk d 3 rfl (BD t) (Z cN (Z (dl h) (⟨?_,rfl⟩))));rw[decide_eq_decide.2 (show((w.b8:Int)=4)↔(w.aX≠0\/w.b8=4)from⟨fun u=>.inr U,fun u=>U⟩)];rintro bN E ⟨rfl,rfl⟩;unfold bG.step at g b;refine ay (fun h=>?_) (fun h=>?_);rw[if_pos h]at b;exact b _ B .eu ar d;rw[if_neg h]at b g;refine ai (dk d 3 rfl (BD t) (Z cN (ay (fun u=>?_) (fun u=>?_))));rw[if_pos U]at b;exact apO ar J d b;rw[if_neg U]at b g;refine ai (dk d 3 rfl (BD t) (Z cN (ay (fun M=>?_) (fun M=>?_))));rw[if_pos U]at b;exact apQ ar I J d b;rw[if_neg U]at b g;refine ai (dk d 3 rfl (KR t) (bg ar.cM.aZ (Z go ?_)));cases e:w.cM with
 | cons x ae=>rw[e]at b;exact dz aW (apU ar e J d b)
 | nil=>
  rw[e]at b g;refine cT aW (ai (dk d 3 rfl rfl ?_));have p:=ar.q;refine Vl (i:=1) (j:=0) (aqf d) rfl rfl bT p.kW ?_ ?_;intro N;have V:w.q=[]:=by
   have:=p.len
   grind
  rw[V]at b;exact Z f5 (Z f6 (Z fX (dz rfl (b _ B .eu ar d))));intro a o N e1 f W k;cases v:w.q with
  | nil=>rw[v]at p;have:=p.len;rw[N]at this;simp at this
  | cons aF l=>
   rw[v]at g p;have⟨dP,aqh,y,ym,u1⟩:=p.tail;rw[N]at y;injection y with cU dw
   injection cU with cU _
   subst cU dw;refine Z f5 (Z f6 (Z fX (cT rfl ?_)))
   replace k:h8 e1 S F {w with q:=l} {B with A:=B.A.di f o}:=by show ac e1 (((S++F)++Fq (B.A.di f o) B.l _ B.c _)++cR B.L w.m);rw[append_assoc];exact k
   have aqi:ih S {w with q:=l} {B with A:=B.A.di f o}:=⟨⟨W,u1⟩,ar.au,ar.aO,ar.cM,ar.n4,ar.s,ar.m,ar.own,ar.b6,ar.wr⟩;apply aqd (B:={B with A:=B.A.di f o}) aqi ym k;intro oA aqj X c7 z C;rw[e]at z C;exact g oA aqj X ⟨c7.r,c7.q,c7.n,c7.l,c7.c,c7.L⟩ z C
end
section
variable{H K a b i h7 l p bn r s t ab bL}
def dU.dv(s:dU)(h7 i:Int):Nat×Int×dU:=if i<0\/2<=i\/h7<1 then(0,101,s)else if s.ho≠0 then(0,161,s)else(s.c4+1,0,{s with h7:=h7,b4:=i,ho:=s.c4+1,c4:=s.c4+1})
theorem aqk(a b:Int)(n:Nat):(eg P 189).f [(0,int a),(1,int b),(2,bB .u64 n)]=some (agg [int a,int b,bB .u64 n]):=ao
theorem V8(e:s.c4<1000)(a:ac H ((ab++[aa l (eq s p)])++bL))(b:∀E,ac E ((ab++[aa l (eq (s.dv h7 i).2.2 p)])++bL)->K (.tuple [bB .u64 (s.dv h7 i).1,int (s.dv h7 i).2.1].toArray) E):aG P 32 [ad l 0,int h7,int i] H K:=by
 refine aga.1 ?_;unfold dU.dv at b;refine cy (fun d E=>d=[ad l 0,int h7,int i,.bool (decide (i<0\/2<=i\/h7<1))]/\E=H) ?_ ?_;refine Z cV (ay (fun h=>Z (dT h) (Z ja (⟨by simp[h],rfl⟩))) (fun h=>?_));refine Z kM (Z (dl h) (ay (fun c=>Z (dT c) (⟨aT,rfl⟩)) (fun c=>?_)));refine Z cV (Z (dl c) (⟨?_,rfl⟩))
 grind
 rintro d E ⟨rfl,rfl⟩;refine ay (fun h=>?_) (fun h=>?_);rw[if_pos h]at b;exact b _ a;rw[if_neg h]at b;refine ai (mg a (ag:=[int s.h7,int s.b4,bB .u64 s.ho]) rfl rfl U (VM a (fun H a=>ay (fun c=>?_) (fun c=>?_))));rw[if_pos c]at b;exact b H a;rw[if_neg c]at b;refine ai (aD a rfl (Z (v:=bB .u64 (s.c4+1)) ?_ ?_));show some (bB .u64 ((s.c4+1)%18446744073709551616))=_
 grind
 refine ai (hc a 0 rfl rfl (show 6<7 by omega) rfl (fun H a=>ai (dk a 0 rfl rfl (Z (aqk _ _ _) (ai (kx a (ab.length+0) (ak (al rfl)) rfl (show 0+0+3<=7 by omega) rfl ?_))))));intro H a;rw[set_append_left _ _ aW,Go.Ab.bp]at a;exact ai (dk a 0 rfl rfl (b H a))
theorem aql(bn:Nat)(a b:Int):(eg P 191).f [(1,ad bn 0),(2,agg [int a,int b])]=some (agg (eq ⟨0,0,0,0,a,b⟩ bn)):=ao
theorem aqm(c:ac H ab)(d:∀E l,ac E (ab++[aa l (eq ⟨0,0,0,0,a,b⟩ bn)])->K (ad l 0) E):aG P 59 [ad bn 0,agg [int a,int b]] H K:=by refine agS.1 ?_;exact b0 c fun e H c=>bK c rfl U (Z (aql _ _ _) (b0 c fun l H c=>d H l (c.sub (List.Sublist.append (sublist_append_left ab _) (List.Sublist.refl _)))))
theorem aqn(l r:Nat)(t:Nat)(i:Int):(eg P 259).f [(0,ad l 0),(1,bB .u64 t),(2,int i),(3,ad r 0)]=some (agg (hp l t i r cJ aA 0 aA 0 0 0)):=ao
theorem aqo(a:ac H ab)(b:∀E c,ac E (ab++[aa c (hp l t i r cJ aA 0 aA 0 0 0)])->K (ad c 0) E):aG P 82 [ad l 0,bB .u64 t,int i,ad r 0] H K:=by refine ahg.1 ?_;exact Z (aqn _ _ _ _) (b0 a fun c H a=>b H c a)
def g6(a:Nat)(b4:Int):bG:=⟨⟨5,b4,1,1,0,1⟩,1,b4,[],cJ,0,[],0,0,0,⟨ba.ci 60 100,h5 0 [a,a],0,[]⟩⟩
theorem aqp(p:Nat):(cz P .eql 36 true).f (ad p 0) (.pointer none)=some (.bool false):=ao
theorem aqq(p:Nat):(cz P .eql 38 true).f (ad p 0) (.pointer none)=some (.bool false):=ao
end
section
variable{H K a b c bz ag m n o cd q size v de y ab}
theorem _root_.Go.Ab.dK.kk(h:dK size v n ag):cS v=true:=by rcases h with⟨rfl,_⟩|⟨p,rfl|rfl,_⟩<;>rfl
def BG(b:LI)(C i:Nat):LI:=hP ((b.drop (i*C)).take C)
def ml(cd:List UInt8)(de:Nat)(bz:Int)(b:LI)(y:Nat):fi:=⟨cd,de,b.length,bz,hP b,(range y).map (BG b bz.toNat)⟩
def mH(cd:List UInt8)(de:Nat)(bz:Int)(b:LI):fi:=ml cd de bz b (kS b.length bz).toNat
theorem zb:(ml cd de bz b y).aU.length=y:=by simp[ml]
theorem KW(c:de<18446744073709551616)(d:-9223372036854775808<=bz/\bz<=9223372036854775807)(f:b.length<=1000000)(e:cd.length<=10000)(g:y<=10000):(ml cd de bz b y).br:=by refine⟨lP,yX,?_,?_,c,⟨by show-9223372036854775808<=((b.length:Nat):Int);omega,by show((b.length:Nat):Int)<=_;omega⟩,d,by grind[zb],e⟩;intro x a;obtain⟨i,_,rfl⟩:=List.mem_map.1 a;rfl;intro x a;obtain⟨i,_,rfl⟩:=List.mem_map.1 a;exact yX
theorem aqr(cd:List UInt8)(de:Nat)(b bz:Int)(a:LI)(c:a.length=32):(eg P 55).f [(0,a6 cd),(1,bB .u64 de),(2,int b),(3,int bz),(4,agg (aN a))]=some (agg (aR ⟨cd,de,b,bz,a,[]⟩ aA)):=by
 match a,c with
 | [a0,y,z,a3,a4,a5,B,C,F,a9,d,e,g,h,i,j,k,l,m,n,a20,a21,o,p,q,r,s,t,u,v,w,x],_=>rfl
theorem V9:(eg P 55).f []=some (agg (aR cJ aA)):=ao
theorem aqs(b:m.cd=a.cd)(c:m.de=a.de)(d:m.cY=a.cY)(e:m.bz=a.bz)(f:m.bw=a.bw):aR m v=aR a v:=by simp_all[aR]
theorem aqt(h:dK size v n ag):dx v=true:=by rcases h with⟨rfl,_⟩|⟨p,rfl|rfl,_⟩<;>rfl
theorem aqu(y:Nat):(ml cd de bz b (y+1)).aU=(ml cd de bz b y).aU++[BG b bz.toNat y]:=by simp[ml,range_succ]
theorem aqv(c:ac H ab)(o:bx ab v b)(d5:bM b)(gA:b.length<=1000000)(p:de<18446744073709551616)(F:-9223372036854775808<=bz/\bz<=9223372036854775807)(jJ:cd.length<=10000)
  (l:¬dy (mH cd de bz b)->∀E,ac E ab->K (.tuple [agg (aR cJ aA),int 131].toArray) E)
  (r:dy (mH cd de bz b)->∀E aq,ac E (ab++aw aq (ec (mH cd de bz b).aU))->df (aw aq (ec (mH cd de bz b).aU)) aq (mH cd de bz b).aU->K (.tuple [agg (aR (mH cd de bz b) aq),int 0].toArray) E):
  aG P 69 [a6 cd,bB .u64 de,int bz,v] H K:=by
 refine ag3.1 ?_;rw[wW];refine dA c.z ?_;intro s H c
 replace c:ac H (ab++[aa s (aR cJ aA)]):=c
 refine bg o.aZ (vf c o.app d5 U ?_);intro H c;refine Z (aqr _ _ _ _ _ lP) (dA c ?_);intro f H c;refine gS c 1 rfl ao (b7 lP) (hB rfl) ?_;intro H c;refine bg o.aZ (Uk U U ?_);have g:mH cd de bz b=ml cd de bz b (kS b.length bz).toNat:=rfl;have qD:0<=kS b.length bz:=JP;generalize I:kS b.length bz=Q at*;obtain⟨N,rfl⟩:∃N:Nat,Q=N:=⟨Q.toNat,U⟩;rw[Int.toNat_natCast]at g;rw[g]at l r;refine Z go (ay (fun J=>?_) (fun J=>?_));refine Z V9 (gS c 0 rfl ao ao ao ?_);intro H c;refine fI c 0 rfl ao U (l ?_ H c.left);intro j;have:=j.2.2.2.2.2.2.2.2.2
 grind[zb]
 have q4:N<=64:=U
 have u:N=0\/∃C:Nat,bz=C/\0<C/\(N-1)*C<=b.length/\b.length<=N*C/\0<N:=by
  unfold kS at I;split at I;omega;right;rename_i o7;refine⟨bz.toNat,U,U,?_⟩;have cU:(((b.length:Nat):Int)-1)/bz=(((b.length-1)/bz.toNat:Nat):Int):=aT
  rw[cU]at I;have h1:=div_mul_le_self (b.length-1) bz.toNat;have h2:=lt_div_mul_add (a:=b.length-1) (b:=bz.toNat) U;have eh:N-1=(b.length-1)/bz.toNat:=aT
  have axC:0<N:=U
  have g0:N*bz.toNat=(b.length-1)/bz.toNat*bz.toNat+bz.toNat:=by grind[Int.ofNat_inj]
  grind
 have x:∀y,y<=N->(ml cd de bz b y).br:=fun y fS=>KW p F gA jJ U
 have L:∀(y:Nat) (z:Value),aR (ml cd de bz b y) z=aR (ml cd de bz b 0) z:=fun y z=>aqs rfl rfl rfl rfl rfl
 have a2:=(x 0 (zero_le _)).bi
 replace c:ac H ((ab++[aa s (aR cJ aA),aa f (aR (ml cd de bz b 0) aA)])++aw aA (ec (ml cd de bz b 0).aU)):=c.z
 refine ag2 (fun k B E=>∃(y:Nat) (aq:Value),y<=N/\k=N-y/\B=[int bz,v,ad s 0,int 0,ad f 0,int N,int y]/\ac E ((ab++[aa s (aR cJ aA),aa f (aR (ml cd de bz b 0) aq)])++aw aq (ec (ml cd de bz b y).aU))/\dK 32 aq y (ec (ml cd de bz b y).aU)) _ _ ?_ N _ _ ⟨0,aA,U,U,rfl,c,.nil⟩;rintro k B H ⟨y,aq,fS,rfl,rfl,c,m⟩;unfold Rs;refine ul ?_
 try simp only[c1,c2]
 refine Z cV (ay (fun M=>?_) (fun M=>?_));have fS:y<N:=U
 obtain⟨C,rfl,lM,Fu,Fv,axD⟩:=u.resolve_left U;have axE:y*C<=(N-1)*C:=mul_le_mul_right C U;have S:(y+1)*C=y*C+C:=succ_mul y C;refine Z (y9 U U) (bg o.aZ (cy (fun B E=>B=[int C,v,ad s 0,int 0,ad f 0,int N,int y,int ((y*C:Nat):Int),int ((min (y*C+C) b.length:Nat):Int)]/\H=E) ?_ ?_));refine Z (iS U U) (Z cV (ay (fun h=>?_) (fun h=>?_)));have iL:y*C+C<=(N-1)*C:=by rw[<- S];exact mul_le_mul_right C U
 refine Z (f2 U U) (⟨?_,rfl⟩);rw[show min (y*C+C) b.length=y*C+C by omega,Int.natCast_add,Int.natCast_mul];have j0:y=N-1:=U
 have iL:N*C=y*C+C:=aT
 refine⟨?_,rfl⟩
 simp_all
 rintro B E ⟨rfl,rfl⟩
 try simp only[c1,c2]
 refine Z bj (aD c (lv a2) ?_);obtain⟨w,fp,V⟩:=E7 o (i:=y*C) (t:=min (y*C+C) b.length) U U;refine Z fp ?_;have W:=c;refine vf c (V _ o).app.app (bM.drop (bM.take d5)) aT ?_;intro H c;refine⟨jf W c (q3 (aqt m)),?_⟩;have X:hP ((b.take (min (y*C+C) b.length)).drop (y*C))=BG b (C:Int).toNat y:=by
  unfold BG;rw[Int.toNat_natCast]
  congr 1
  rw[drop_take];by_cases t7:y*C+C<=b.length
  simp_all
  grind[length_drop]
 rw[X];have qM:(BG b (C:Int).toNat y).length=32:=lP;refine el c (JW _ qM _) ?_;intro q H c;refine qQ c m ao U (ge _) U U ?_;intro KG H c d;rw[<- Bs,<- aqu]at c d;refine Z bj (cQ c (ab.length+1) (ak (al rfl)) d.kk (by grind[b7]) (VD a2) ?_);intro H c;rw[set_append_left _ _ aW,Go.Ab.bp]at c;exact Z (n0 (b:=1) U) (⟨N-(y+1),U,y+1,KG,U,rfl,rfl,c,d⟩);have tP:y=N:=U
 subst tP;refine iR rfl ?_
 try simp only[c1,c2]
 have e:=x y (Nat.le_refl _);have n:df (aw aq (ec (ml cd de bz b y).aU)) aq (ml cd de bz b y).aU:=E0 (by rw[zb];exact m);rw[<- L y aq]at c;refine bK c (b7 e.bi) U (wS e n.app' c ?_);intro H c;refine Z fX (lr (fun j=>?_) (fun j=>?_));have j:¬dy (ml cd de bz b y):=a1
 refine Z V9 (dn c (ab.length+0) (ak (al rfl)) ao ao ao ?_);intro H c;rw[set_append_left _ _ aW,Go.Ab.bp]at c;exact gQ c (ab.length+0) (ak (al rfl)) ao U (l j H c.left.left);have j:dy (ml cd de bz b y):=by simpa using j
 refine bK c (b7 e.bi) U (dn c (ab.length+0) (ak (al rfl)) ao (b7 e.bi) (hB n.du) ?_);intro H c;rw[set_append_left _ _ aW,Go.Ab.bp]at c;exact gQ c (ab.length+0) (ak (al rfl)) (b7 e.bi) U (r j H aq (ac.bR c) n)
end
section
variable{a b c dr d0 i j l s x}{d:ba}
def oU(d:ba)(i:Nat):LI:=(d.cells.getD i fY).iA
def aF(d:ba)(i:Nat):LI:=(d.cells.getD i fY).cb
def wr(d:ba)(i:Nat):Int:=(d.cells.getD i fY).eD
def i6(l:List (Nat×LI)):List Nat:=l.map (·.1)
theorem aqw(h:x∈l):x.1∈i6 l:=List.mem_map.2 ⟨x,h,rfl⟩
theorem Wa:i6 (a++b)=i6 a++i6 b:=map_append
structure zc (d:ba):Prop where
 pf:(i6 d.done).Nodup
 lt:∀x∈d.done,x.1<d.cells.length
 p:∀i w,(i,w)∈d.done->aF d i=w
 n:∀i,i∉i6 d.done->aF d i=oU d i
structure en (d dr:ba):Prop where
 c:dr.cells=d.cells
 w:dr.done=d.done
 m:dr.hx=d.hx
theorem en.oU(h:en d dr):oU dr i=oU d i:=by unfold J.oU;rw[h.c]
theorem en.aF(h:en d dr):aF dr i=aF d i:=by unfold J.aF;rw[h.c]
theorem en.wr(h:en d dr):wr dr i=wr d i:=by unfold J.wr;rw[h.c]
theorem en.hK(h:en d dr)(a:zc d):zc dr:=⟨by rw[h.w];exact a.pf,by rw[h.w,h.c];exact a.lt,by rw[h.w];intro i w b;rw[h.aF];exact a.p i w b,by rw[h.w];intro i b;rw[h.aF,h.oU];exact a.n i b⟩
structure Wb (d:ba) (i:Nat) (s:LI) (dr:ba):Prop where
 len:dr.cells.length=d.cells.length
 m:dr.hx=d.hx
 w:dr.done=d.done++[(i,s)]
 k:∀j,oU dr j=oU d j
 s:∀j,aF dr j=if i=j then s else aF d j
 nS:dr.ff=false
 pz:d.ei<0->dr.ei=d.ei
theorem Wb.hK(h:Wb d i s dr)(f:zc d)(aB:i<d.cells.length)(l:i∉i6 d.done):zc dr:=by
 refine⟨?_,?_,?_,?_⟩
 ·rw[h.w,Wa,nodup_append];refine⟨f.pf,by simp[i6],fun a m b o=>?_⟩
  grind[i6]
 ·rw[h.w,h.len];intro x g;rcases mem_append.1 g with g|g
  ·exact f.lt x g
  simp_all
 ·rw[h.w];intro j w c;rw[h.s];rcases mem_append.1 c with c|c
  ·rw[if_neg (fun e:i=j=>l (by rw[e];exact aqw c))];exact f.p j w c
  simp_all
 ·rw[h.w];intro j c;rw[Wa,mem_append,not_or]at c;rw[h.s,h.k,if_neg (fun e=>c.2 (by simp_all[i6]))];exact f.n j c.1
theorem aqx(aB:i<d.cells.length):d.ek (i:Int):=⟨U,U⟩
structure eG (d dr:ba):Prop where
 s:en d dr
 cs:dr.ff=true
 b:0<=d.ei
structure Wc (d dr:ba):Prop where
 len:dr.cells.length=d.cells.length
 m:dr.hx=d.hx
 w:dr.done=[]
 k:∀j,oU dr j=aF d j
 s:∀j,aF dr j=aF d j
 wr:∀j,wr dr j=wr d j
 nS:dr.ff=false
 pz:d.ei<0->dr.ei=d.ei
theorem Wc.hK(h:Wc d dr):zc dr:=⟨by rw[h.w];simp[i6],(by rw[h.w];simp_all),(by grind[w]),fun i _=>by rw[h.s,h.k]⟩
def aqy(old ci a:LI):Prop:=∃n,n<=64/\a=ci.take n++old.drop n
structure Wd (d dr:ba):Prop where
 len:dr.cells.length=d.cells.length
 m:dr.hx=d.hx
 w:dr.done=[]
 s:∀j,aF dr j=oU dr j
 n:∀j,j∉i6 d.done->oU dr j=oU d j
 t:∀j w,(j,w)∈d.done->aqy (oU d j) w (oU dr j)
 wr:∀j,wr dr j=wr d j
 nS:dr.ff=false
 pz:dr.ei=-1
theorem Wd.hK(h:Wd d dr):zc dr:=⟨by rw[h.w];simp[i6],(by rw[h.w];simp_all),(by grind[w]),fun i _=>h.s i⟩
end
section
variable{A B b d dr d0 e aB na j d3 m nM o s y}
def off(A:Nat)(b:Int):Nat:=if b=0 then 0 else A
def mI(A B:Nat)(b:Int):Nat:=if b=0 then A else B
structure lJ (m:bh) (A B:Nat):Prop where
 cq:∃r,m.e3=(0,A)::(A,B)::r
 KX:A+B<=m.d.cells.length
abbrev oV(b:Int):Prop:=b=0\/b=1
theorem uc(h:lJ m A B)(a:oV b):m.ek b/\m.ky b=(off A b,mI A B b):=by
 have⟨r,e⟩:=h.cq;unfold bh.ek bh.ky;rw[e];rcases a with rfl|rfl
 exact⟨⟨U,aT⟩,rfl⟩;exact⟨⟨U,aT⟩,rfl⟩
theorem w6(h:lJ m A B)(a:oV b):m.size b=mI A B b:=by unfold bh.size;rw[if_pos (uc h a).1,(uc h a).2]
theorem KY(h:lJ m A B)(a:oV b)(c:y<mI A B b):off A b+y<m.d.cells.length:=by
 have:=h.KX
 grind[mI,off]
theorem KZ(h:lJ m A B)(a:oV b)(d:y<mI A B b):m.gK b y=(((off A b+y:Nat):Int),0):=by unfold bh.gK;rw[if_neg (fun c=>c (uc h a).1),(uc h a).2,if_neg U];rfl
theorem We(a:j<d.cells.length):(d.fg (j:Int)).1=aF d j:=by simp_all[ba.fg,aqx,ba.cell,aF]
theorem BH(h:lJ m A B)(a:oV b)(c:y<mI A B b):(m.fg b y).1=aF m.d (off A b+y):=by unfold bh.fg;rw[KZ h a c,if_neg aW];exact We (KY h a c)
def ac1(d:ba)(A B:Nat)(b:Int):List LI:=(range (mI A B b)).map fun y=>oU d (off A b+y)
end
end J
