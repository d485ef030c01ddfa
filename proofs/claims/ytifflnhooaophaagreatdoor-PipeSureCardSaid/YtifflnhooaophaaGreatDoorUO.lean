/- texts of the nF, e5 behind the l0 -/
import Derived.Test.YtifflnhooaophaaGreatDoorUN
set_option linter.unusedVariables false
set_option linter.unusedSimpArgs false
set_option linter.unusedSectionVars false
set_option maxHeartbeats 8000000
set_option maxRecDepth 100000
open List Nat
namespace J
open Go Go.Ab
namespace V
variable{A B:Nat}{d:bG}{m:bn}{s:List Int}{n y e:Nat}{w:bN}{aC b:Int}{f g:Nat->List Int}
def off(A:Nat)(b:Int):Nat:=if b=0 then 1 else 1+A
structure nM (m:bn) (A B:Nat):Prop where
 ct:∃r,m.hq=(0,1)::(1,A)::(1+A,B)::r
 Su:1+A+B<=m.d.cells.length
theorem yy(h:nM m A B)(an:k0 b):m.gF (1+b)/\m.rT (1+b)=(off A b,pg A B b):=by
 obtain⟨r,e⟩:=h.ct;unfold bn.gF bn.rT;rw[e];rcases an with rfl|rfl
 exact⟨⟨by omega,by grind⟩,rfl⟩;exact⟨⟨by omega,by grind⟩,rfl⟩
theorem B5(h:nM m A B)(an:k0 b):m.size (1+b)=pg A B b:=by unfold bn.size;rw[if_pos (yy h an).1,(yy h an).2]
theorem Sv(h:nM m A B)(an:k0 b){y:Nat}(a8:y<pg A B b):off A b+y<m.d.cells.length:=by
 have:=h.Su
 grind[pg,off]
theorem Sw(h:nM m A B)(an:k0 b){y:Nat}(a8:y<pg A B b):m.fH (1+b) y=(((off A b+y:Nat):Int),0):=by unfold bn.fH;rw[if_neg (fun h2=>h2 (yy h an).1),(yy h an).2,if_neg (by omega)];rfl
theorem Hd(h:nM m A B)(an:k0 b){y:Nat}(a8:y<pg A B b):(m.eT (1+b) y).1=eC m.d (off A b+y):=by unfold bn.eT;rw[Sw h an a8,if_neg (by simp)];exact afC (Sv h an a8)
structure qv (w:bN) (n:Nat) (aC:Int) (f g:Nat->List Int):Prop where
 tQ:w.s.uE w.cK
 di:w.s.dc=aC
 cP:w.dc=aC
 fS:w.s.fS=1
 cC:w.s.cC=2
 oC:k0 aC
 lP:nM w.m n n
 qU:w.m.d.h7=false
 LG:w.m.d.iP=-1
 o7:w.m.d.o7=100
 f:∀i,i<n->eC w.m.d (off n aC+i)=f i
 g:∀i,i<n->eC w.m.d (off n (1-aC)+i)=g i
theorem qv.part(h:qv w n aC f g):w.s.part aC=1+aC:=by
 unfold fM.part;rcases h.oC with e|e<;>subst e
 rw[if_neg (by omega),if_pos rfl,h.fS];rfl;rw[if_neg (by omega),if_neg (by omega),h.cC];rfl
theorem qv.size(h:qv w n aC f g):w.size=n:=by unfold bN.size;rw[h.cP,h.part,B5 h.lP h.oC,Ev]
theorem qv.all(h:qv w n aC f g):w.m.all (1+aC)=(List.range n).flatMap f:=by
 have aw:pg n n aC=n:=Ev;unfold bn.all bn.q3;rw[B5 h.lP h.oC,aw];refine Hf _ fun i aq=>?_
 rw[Hd h.lP h.oC (by simp_all)];exact h.f i (mem_range.1 aq)
theorem qv.l0(h:qv w n aC f g):w.m.all (1+(1-aC))=(List.range n).flatMap g:=by
 have aw:pg n n (1-aC)=n:=Ev;unfold bn.all bn.q3;rw[B5 h.lP (Hg h.oC),aw];refine Hf _ fun i aq=>?_
 rw[Hd h.lP (Hg h.oC) (by simp_all)];exact h.g i (mem_range.1 aq)
end V
end J
namespace J
open Go Go.Ab
namespace V
end V
end J
namespace J
open Go Go.Ab
namespace V
variable{key:List Int}{gC:dm}{q:Int×List Int}
def agB(key:List Int)(gC:dm)(q:Int×List Int):Prop:=if q.1=-1 then(fh key q.2).2.2≠0 else(q.2.length:Int)≠(gm gC q.1).2
instance:Decidable (agB key gC q):=by unfold agB;infer_instance
end V
end J
namespace J
open Go Go.Ab
namespace V
end V
end J
namespace J
open Go Go.Ab
namespace V
end V
end J
namespace J
open Go Go.Ab
namespace V
variable{k N:Nat}{p:dG}
def w8:Nat->Nat->dG->dG
 | _,0,p=>p
 | k,N+1,p=>if p.st=1 then w8 (k+1) N (p.step ((k%3:Nat):Int)).2 else p
theorem aAJ(h:p.st≠1):∀N k,w8 k N p=p
 | 0,_=>rfl
 | N+1,k=>by simp_all[w8]
theorem aAK(h:p.st=1):w8 k (N+1) p=w8 (k+1) N (p.step ((k%3:Nat):Int)).2:=by show(if p.st=1 then _ else _)=_;grind
end V
end J
namespace J
open Go Go.Ab
namespace V
variable{aC:Int}{dp:ei}
theorem aAL(agC:1<=dp.bR.iZ)(u7:k0 dp.bR.aC):mh.jI dp.bR.iZ dp.bR.aC=(1,0,⟨dp.bR.iZ,dp.bR.aC,1,1,1,2⟩):=by unfold fM.jI;rw[if_neg (by omega),if_neg (by decide)];rfl
end V
end J
namespace J
open Go Go.Ab
section
variable[cr:bW]
variable{S X:List (Nat×ay)}{q:hK}{p:dG}{N:Nat}{A B:gB}{cd:Nat}{kv fv:Value}{l:ff}{bJ:List (Int×List Int)}{eS:List j5}{bI:jX}
theorem uC.app{s:iG}{C:gB}{bY ct:Value}{T:List (Nat×ay)}(h:uC S s A B C kv bY ct T):uC (S++X) s A B C kv bY ct T:=⟨h.kv.app,h.zT,h.rh,h.ui,h.a.app,h.b.app,h.c.app,h.ft,h.G5,h.ok,h.bY.app,h.bl.app⟩
theorem Ca.app(h:Ca S A B cd kv fv l bJ eS bI):Ca (S++X) A B cd kv fv l bJ eS bI:=⟨h.a.app,h.b.app,h.ek.app,h.bI.app,h.ok⟩
theorem tx.app(h:tx S q p N):tx (S++X) q p N:=⟨h.tz,h.w3.app,h.w4,h.w5,h.uK,h.s,h.m,h.own,h.ke,h.bI.app,h.dF,h.d1,h.d2,h.kT,fun h1=>⟨(h.eV h1).bx.app,(h.eV h1).cw.app,(h.eV h1).wr.app,(h.eV h1).sc,(h.eV h1).cU⟩⟩
end
theorem aAM{l:List (Nat×ha)}{i:Nat}{r:ha}(h:eD l i=some r):∃x∈l,x.1=i:=by
 induction l with
 | nil=>cases h
 | cons x dx a7=>
  rw[qa]at h
  grind
variable{S:List (Nat×ay)}{q:hK}{p:dG}{N:Nat}{cd:Nat}{fv:Value}{l:ff}{bI:jX}{eN:bW}{r:ha}{dE:Nat}
theorem pU.CY(hm:∀x∈eN.l,x.1<dE)(h:@pU eN S cd fv bI):@pU (iA dE r eN) S cd fv bI:=by obtain⟨⟨T,h1,h2⟩,aB,bk⟩:=h;refine @pU.mk (iA dE r eN) _ _ _ _ ⟨T,?_,h2⟩ aB bk;show eD ((dE,r)::eN.l) cd=_;obtain⟨x,b7,ca⟩:=aAM h1;have:=hm x b7;rw[qa,if_neg (by omega)];exact h1
theorem tx.CY(hm:∀x∈eN.l,x.1<dE)(h:@tx eN S q p N):@tx (iA dE r eN) S q p N:=by have aR:=h.bI.CY (r:=r) hm;exact @tx.mk (iA dE r eN) _ _ _ _ h.tz h.w3 h.w4 h.w5 h.uK h.s h.m h.own h.ke aR h.dF h.d1 h.d2 h.kT fun h1=>@af2.mk (iA dE r eN) _ _ _ (h.eV h1).bx (@Ca.mk (iA dE r eN) _ _ _ _ _ _ _ _ _ _ (h.eV h1).cw.a (h.eV h1).cw.b (h.eV h1).cw.ek ((h.eV h1).cw.bI.CY (r:=r) hm) (h.eV h1).cw.ok) (h.eV h1).wr (h.eV h1).sc (h.eV h1).cU
def Cd:List UInt8:=[109,111,100,101,109]
structure PA (p:dG):Prop where
 st:p.st=2
 wr:p.w.wr=2
theorem pa_of{p:dG}(h:(fun p:dG=>(p.st,p.w.wr)) p=(2,2)):PA p:=by
 have h:(p.st,p.w.wr)=(2,2):=h;injection h with h1 h2
 exact⟨h1,h2⟩
theorem aAN:PA (V.w8 0 200 (r4 (nE kK))):=pa_of (by kernel_rfl)
theorem pm_of{r:Bool×dG}(h:(fun r:Bool×dG=>(r.1,r.2.st,r.2.iT)) r=(true,3,182)):r.1=true/\r.2.st=3/\r.2.iT=182:=by
 have h:(r.1,r.2.st,r.2.iT)=(true,3,182):=h;injection h with h1 h2
 injection h2 with h2 aB
 exact⟨h1,h2,aB⟩
theorem aAO:((r4 (nE Cd)).step 0).1=true/\((r4 (nE Cd)).step 0).2.st=3/\((r4 (nE Cd)).step 0).2.iT=182:=pm_of (by kernel_rfl)
end J
namespace J
open Go Go.Ab
variable{H:ar}{S F X R:List (Nat×ay)}{ab:VH}{bO q2:hK}{p cC bw:dG}{N:Nat}
theorem L4(p:Nat):(au P .eql 34 true).f (ai p 0) (.pointer none)=some (.bool false):=by rfl
theorem Tf(p:Nat):(au P .eql 39 true).f (ai p 0) (.pointer none)=some (.bool false):=by rfl
theorem agD(cz:List UInt8)(h:cz.length<=200):(nE cz).jP:=by refine⟨⟨by show(1:Int)<=4;decide,by show(4:Int)<=20;decide⟩,zero_le _,by show 1<=5;decide,zero_le _,by show 3<=200;decide,by show 4<=200;decide,h,?_⟩;intro o bC;have bC:o∈ [(kK,EF)]:=bC;rw[mem_singleton.1 bC];exact⟨by show 4<=200;decide,Nat.le_trans aAE (by decide)⟩
inductive EG:bW->bW->Prop
 | rfl (L:bW):EG L L
 | kZ {L cA:bW} {m:Nat} {r:ha}:EG L cA->(∀x∈cA.l,x.1<m)->EG L (iA m r cA)
structure oJ [cr:bW] (H:ar) (S F:List (Nat×ay)) (bO:hK) (cC:dG) (q2:hK) (bw:dG) (N:Nat):Prop where
 g:c8 H S (F++(yB q2 bw++k2 q2 bw)) bO cC N
 r:tx S q2 bw 30
theorem oJ.Ac[cr:bW](h:oJ H S F bO cC q2 bw N){i ft:Nat}{ao:List Value}{o:Nat}{v:Value}(aq:F[i]?=some (ft,⟨ao,true⟩))(hv:ao[o]?=some v)(ag:ab v H):af (ax (ai ft o) H) ab:=by obtain⟨⟨aQ,R,U,hO⟩,_⟩:=h;exact aP hO (S.length+i) (aK (aA (aK (aK aq)))) hv ag
theorem oJ.lP[cr:bW](h:oJ H S F bO cC q2 bw N)(h2:bw.st=1):∃vP,c8 H S (F++vP) q2 bw 30:=by obtain⟨⟨aQ,R,U,hO⟩,h2⟩:=h;refine⟨R++k2 bO cC,h2,yB q2 bw,fun _=>rfl,hO.e4 (gI fun p=>by grind)⟩
theorem oJ.st[cr:bW](h:oJ H S F bO cC q2 bw N):aj H (S++F):=by obtain⟨⟨aQ,R,U,hO⟩,_⟩:=h;refine hO.sub (List.Sublist.trans ?_ (sublist_append_left _ _));refine List.Sublist.append_left ?_ S;rw[append_assoc];exact sublist_append_left _ _
theorem aAP[cr:bW]{j9 b2:Value}{rq i1:Nat}{kY:List Value}{bL:LX}{cy:LN}(aq:F[i1]?=some (rq,⟨kY,true⟩))(hv:kY[3]?=some (ai bO.ew 0))(h:oJ H S F bO cC q2 bw 30)
  (ag:∀aa X fq,fq.ew=bO.ew->oJ aa (S++X) F fq (V.w8 0 200 cC) q2 bw 230->bL 0 [j9,ai rq 0,b2] aa):
  eI P true 96 PJ 11 [j9,ai rq 0,b2,int 0] H bL cy:=by
 refine aov (fun k aF aa=>∃(y:Nat) (X:List (Nat×ay)) (fq:hK) (jf:dG),y<=200/\k=200-y/\aF=[j9,ai rq 0,b2,int y]/\fq.ew=bO.ew/\oJ aa (S++X) F fq jf q2 bw (30+y)/\V.w8 y (200-y) jf=V.w8 0 200 cC) _ _ ?_ 200 _ _ ⟨0,[],bO,cC,by omega,rfl,rfl,rfl,by rw[append_nil];exact h,rfl⟩;rintro k aF H ⟨y,X,fq,jf,a8,rfl,rfl,cf,h,xQ⟩;unfold XZ;have ed:jf.st≠1\/y=200->bL 0 [j9,ai rq 0,b2] H:=by
  intro hb;have e:jf=V.w8 0 200 cC:=by
   rcases hb with h1|h1
   simp_all[V.aAJ]
   subst h1;exact xQ
  rw[e]at h;exact ag H X fq cf ⟨h.g.mono (by omega),h.r⟩
 refine e6 (fun aF aa=>aF=[j9,ai rq 0,b2,int y]/\aa=H/\y<200/\jf.st=1) ?_ ?_
 try simp only[cu,cv]
 refine ah ez (bz (fun h1=>?_) (fun h1=>?_));refine aU (h.Ac aq hv ?_);rw[<- cf];refine Hl h.g (ah fl (ah (hT h1) (bz (fun h2=>?_) (fun h2=>?_))))
 grind
 exact ed (.inl h2);exact ah (ho h1) (et rfl (ed (.inr (by omega))));rintro aF aa ⟨rfl,rfl,dy,hb⟩
 try simp only[cu,cv]
 refine aU (h.Ac aq hv (ah (uA (by decide)) ?_));rw[<- cf];refine SO (by omega) h.g ?_;intro cB dz pk aw hg;refine ah (v:=int ((y+1:Nat):Int)) (by grind[jg]) (⟨_,by omega,y+1,X++pk,dz,_,dy,rfl,rfl,aw.ew,⟨by rw[<- append_assoc];exact hg,by rw[<- append_assoc];exact h.r.app⟩,?_⟩);rw[<- xQ,show 200-y=(200-(y+1))+1 by omega,V.aAK hb]
end J
namespace J
open Go Go.Ab
variable{H:ar}{S F X R:List (Nat×ay)}{ab:VH}{q bO q2:hK}{p:dG}{N:Nat}
theorem agE(cz:List UInt8):¬((mh.jI (nE cz).bR.iZ (nE cz).bR.aC).2.1≠0):=by grind[V.aAL,nE]
theorem aAQ{cz:List UInt8}{wv ov fv kv:Value}(h:pZ S (nE kK) wv ov fv kv):pZ S (nE cz) wv ov fv kv:=⟨h.gp,h.zW,h.off,h.bj,h.B8,h.key,h.zT⟩
theorem c8.aAR[cr:bW](h:c8 H S F q p N):aj H (S++F):=by obtain⟨aQ,R,U,hO⟩:=h;refine hO.sub (List.Sublist.trans ?_ (sublist_append_left _ _));exact List.Sublist.append_left (sublist_append_left _ _) S
theorem aAS[cr:bW](hO:aj H (S++F))(ag:∀(cA:bW) aa X,EG cr cA->@aj cA aa ((S++X)++F)->ab (.bool true) aa):az P 10 [] H ab:=by
 apply aow;unfold X0;refine agy hO ?_;intro H ov kv X hW hO;refine SV (agD kK (by decide)) hW hO (fun h=>absurd h (agE kK)) ?_;intro _ EE H rq bO uj u5 Tg aAT;obtain⟨fw,Tg⟩:=Tg;obtain⟨iH,aD0,om,eh⟩:=aAT;obtain rfl:=om rfl;have aAU:aj H (((S++X)++uj)++(((F++[(rq,⟨mI bO,true⟩)])++yB bO (r4 (nE kK)))++k2 bO (r4 (nE kK)))):=by rw[<- append_assoc];exact eh
 refine agy aAU ?_;intro H Th oI pk Ti hO;rw[agx];refine c4 hO ?_;intro dJ H hO;refine e7 hO (_+0) (aA rfl) rfl rfl (by
  obtain⟨aJ,h1,_⟩:=Ti.off;have bC:eA Th=true:=by rcases h1 with⟨rfl,_⟩|⟨p,c,j,w,rfl,_⟩<;>rfl
  show(true&&(true&&(true&&(eA Th&&(true&&(mG (nE kK).kg oI++nD (nE kK).bR).all eA)))))=true;rw[bC,all_append,az1 Ti.key];rfl) ?_
 intro H hO
 replace hO:=hO.cb
 refine ah b0 (ah b0 (fm hO (_+0) (aA rfl) rfl (show 14<16 by decide) (bu:=jb (nE Cd) bq Th bq oI) rfl ?_));intro H hO
 replace hO:=hO.cb
 refine fs hO (_+0) (aA rfl) rfl (by omega) (SV (agD Cd (by decide)) (aAQ Ti) hO.left (fun h=>absurd h (agE Cd)) ?_);intro _ yF H Ce q2 Hy p4 L5 uL;obtain⟨ak4,L5⟩:=L5;obtain⟨B4,KR,ie,lo⟩:=uL;obtain rfl:=ie rfl;obtain⟨hS,Tj⟩:∃hS,hS=((((S++X)++uj)++pk)++Hy):=⟨_,rfl⟩;obtain⟨Cf,aAV⟩:∃Cf,hS=S++Cf:=⟨((X++uj)++pk)++Hy,by simp_all⟩;have Kc:EG cr yF:=by
  rw[L5];have h1:EG cr EE:=by rw[Tg];exact .kZ (.rfl cr) u5
  exact .kZ h1 p4
 have h:oJ H hS ((F++[(rq,⟨mI bO,true⟩)])++[(Ce,⟨mI q2,true⟩)]) bO (r4 (nE kK)) q2 (r4 (nE Cd)) 30:=by refine⟨⟨?_,yB bO (r4 (nE kK)),fun _=>rfl,?_⟩,?_⟩;rw[Tj,L5];exact tx.CY p4 (@tx.app EE _ _ _ _ _ (@tx.app EE _ _ _ _ _ iH));rw[Tj];exact lo.e4 (gI fun p=>by simp only[countP_append,countP_cons,countP_nil];omega);rw[Tj];exact B4
 rw[aAV]at h;have i1:((F++[(rq,(⟨mI bO,true⟩:ay))])++[(Ce,(⟨mI q2,true⟩:ay))])[F.length+0]?=some (rq,⟨mI bO,true⟩):=aK (aA rfl);have jR:((F++[(rq,(⟨mI bO,true⟩:ay))])++[(Ce,(⟨mI q2,true⟩:ay))])[(F++[(rq,(⟨mI bO,true⟩:ay))]).length+0]?=some (Ce,⟨mI q2,true⟩):=aA rfl;refine e6 (fun aF aa=>aF=[.bool false,ai rq 0,ai Ce 0]/\aa=H) ?_ ?_;exact ah (L4 _) (et rfl (ah (L4 _) (ah mr (et rfl (aU (h.Ac i1 (v:=ai bO.ew 0) rfl (ah (Tf _) (ah mr (et rfl (aU (h.Ac jR (v:=ai q2.ew 0) rfl (ah (Tf _) (ah mr (et rfl (aU (h.Ac i1 (v:=ai bO.ew 0) rfl (Hl h.g (ah ik (ah mr (nr (by show¬((1:Int)≠1);decide) (⟨rfl,rfl⟩)))))))))))))))))))));rintro aF aa ⟨rfl,rfl⟩
 try simp only[cu,cv]
 refine aAP i1 rfl h ?_;intro H X fq cf h;have agF:=aAN;show cond (Nat.beq 0 0) _ _;rw[beq_refl];show ad _ _;refine aU (h.Ac i1 (v:=ai bO.ew 0) rfl ?_);rw[<- cf];refine Hl h.g ?_;rw[agF.st];refine ah fl (rK rfl (aU (h.Ac i1 (v:=ai bO.ew 0) rfl ?_)));rw[<- cf];refine azA h.g ?_;rw[agF.wr];refine ah fl (ah (hT rfl) (rK (by decide) (aU (h.Ac jR (v:=ai q2.ew 0) rfl ?_))));obtain⟨vP,uL⟩:=h.lP rfl;obtain⟨fk,dE,tX⟩:=aAO;refine SO (eo:=0) (by omega) uL ?_;intro H dz Hz aw hg;rw[fk];have cw:∀ {o:Nat} {v:Value} {ab:VH},(mI q2)[o]?=some v->ab v H->af (ax (ai Ce o) H) ab:=by intro o v ab h1 h2;obtain⟨_,R,_,hO⟩:=hg;exact aP hO ((((S++Cf)++X)++Hz).length+((F++[(rq,(⟨mI bO,true⟩:ay))]).length+0)) (aK (aA (aK (aK jR)))) h1 h2
 refine ah (hT (by decide)) (fg rfl (aU (cw (v:=ai q2.ew 0) rfl ?_)));rw[<- aw.ew];refine Hl hg ?_;rw[dE];refine ah fl (ah ll (rK rfl (aU (cw (v:=ai q2.ew 0) rfl ?_))));rw[<- aw.ew];refine azz hg ?_;rw[tX];refine ah fl (ah (hT rfl) ?_);have hO:=hg.aAR;have:=ag _ H ((Cf++X)++Hz) Kc (by refine aj.sub (ae:=(((S++Cf)++X)++Hz)++(((F++[(rq,(⟨mI bO,true⟩:ay))])++[(Ce,(⟨mI q2,true⟩:ay))])++vP)) hO ?_;rw[show S++((Cf++X)++Hz)=((S++Cf)++X)++Hz by grind];refine List.Sublist.append_left ?_ _;rw[append_assoc,append_assoc];exact sublist_append_left _ _);exact this
end J
