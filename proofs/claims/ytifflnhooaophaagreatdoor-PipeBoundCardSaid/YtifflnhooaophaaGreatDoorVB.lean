/- texts of the nf, fh behind the mA -/
import Derived.Test.YtifflnhooaophaaGreatDoorVC
set_option linter.unusedVariables false
set_option linter.unusedSimpArgs false
set_option linter.unusedSectionVars false
set_option maxHeartbeats 8000000
set_option maxRecDepth 100000
open List Nat
namespace J
open Go Go.Ab
noncomputable section
noncomputable abbrev VG:Code:=hb P 3 0
noncomputable abbrev VI:Code:=hb P 3 1
noncomputable abbrev VJ:Code:=hb P 3 2
def ajH:LF:=fun l H N bC ch=>ad (ar P .lss 3 false (l 6) (l 5)) fun a=>aE a (ad (hz 1 (l 4) (l 6)) fun b=>af (aw b H) fun c d=>aH (l 1) 3 fun f=>af (aw f d) fun g h=>af (iw .i64 c h) fun i j=>ad (ar P .rem 3 true i (int 4)) fun k=>ay P 14 [g,k] j fun m n=>aE m (ad (ar P .add 3 true (l 3) (int 1)) fun o=>ad (ar P .add 3 true (l 6) (int 1)) fun p=>N [l 0,l 1,l 2,o,l 4,l 5,p] n) (ad (ar P .add 3 true (l 6) (int 1)) fun o=>N [l 0,l 1,l 2,l 3,l 4,l 5,o] n)) (bC 0 [l 0,l 1,l 2,l 3] H)
theorem aEN:LpI P 103 VG 240 ajH:=.mk
def ajI:LF:=fun l H N bC ch=>e5 (fun a=>ad (ar P .leq 3 false (l 4) (l 2)) fun b=>aE b (aH (l 1) 3 fun d=>af (aw d H) fun e f=>ay P 15 [e] f fun g h=>ad (ar P .eql 3 true g (int 1)) fun i=>ad (aI b i (.bool false)) fun j=>aE j (a [l 0,l 1,l 2,l 3,l 4] h) (bC 2 [l 0,l 1,l 2,l 3] h)) (ad (aI b undef (.bool false)) fun c=>aE c (a [l 0,l 1,l 2,l 3,l 4] H) (bC 2 [l 0,l 1,l 2,l 3] H))) (fun a b=>eJ P true 103 VJ 1264 [a 0,a 1,a 2,a 3,a 4,(int 0)] b (fun id c d=>cond (Nat.beq id 4) (ad (ar P .add 3 true (c 4) (int 1)) fun e=>N [c 0,c 1,c 2,c 3,e] d) (cond (Nat.beq id 3) (ad (ar P .add 3 true (c 4) (int 1)) fun e=>N [c 0,c 1,c 2,c 3,e] d) (bC id [c 0,c 1,c 2,c 3] d))) (fun c d=>ch [c 0,c 1,c 2,c 3] d))
theorem aEO:LpI P 103 VI 240 ajI:=.mk
def ajJ:LF:=fun l H N bC ch=>ad (ar P .lss 3 true (l 5) (int 4)) fun a=>aE a (aH (l 1) 3 fun c=>af (aw c H) fun d e=>ay P 14 [d,l 5] e fun f g=>aE f (ad (ar P .add 3 true (l 3) (int 1)) fun h=>ad (ar P .add 3 true (l 5) (int 1)) fun i=>N [l 0,l 1,l 2,h,l 4,i] g) (ad (ar P .add 3 true (l 5) (int 1)) fun h=>N [l 0,l 1,l 2,l 3,l 4,h] g)) (bC 4 [l 0,l 1,l 2,l 3,l 4] H)
theorem aEP:LpI P 103 VJ 1264 ajJ:=.mk
def ajK:V2:=fun t0 a8 H aa=>cG (dr t0) H fun a b=>ay P 10 [] b fun c d=>ad (hx .not c) fun e=>aE e (aa (.bool false) d) (e5 (fun f=>af (bZ 16 a d) fun g h=>ay P 11 [g] h fun i j=>aE i (ad (aI i (.bool true) undef) fun k=>aE k (aa (.bool true) j) (f [a8,a,(.bool false)] j)) (af (bO a8 j) fun k m=>ad (ar P .gtr 3 true k (int 400)) fun n=>ad (aI i (.bool true) n) fun o=>aE o (aa (.bool true) m) (f [a8,a,(.bool false)] m))) (fun f g=>af (bZ 16 (f 1) g) fun h i=>ay P 12 [h] i fun j k=>e5 (fun m=>ad (ar P .eql 34 true j (.pointer none)) fun n=>aE n (ad (aI n (.bool true) undef) fun o=>m [f 0,f 1,f 2,j,o] k) (aH j 3 fun p=>af (aw p k) fun q r=>ad (ar P .eql 39 true q (.pointer none)) fun s=>ad (aI n (.bool true) s) fun t=>m [f 0,f 1,f 2,j,t] r)) (fun m n=>aE (m 4) (ad (ar P .neq 34 true (m 3) (.pointer none)) fun o=>aE o (aH (m 3) 4 fun q=>af (aw q n) fun r s=>ad (ar P .neq 40 true r (int 0)) fun t=>ad (aI o t (.bool false)) fun u=>aa u s) (ad (aI o undef (.bool false)) fun p=>aa p n)) (ad (bG 0 (m 1)) fun o=>af (aw o n) fun p q=>ad (bG 5 (m 1)) fun r=>ad (bG 2 r) fun s=>af (aw s q) fun t u=>ad (bG 5 (m 1)) fun v=>ad (bG 3 v) fun w=>af (aw w u) fun x y=>ay P 13 [p,t,x] y fun z A=>af (bO (m 0) A) fun B C=>eJ P true 103 VG 240 [m 2,m 3,z,(int 0),m 0,B,(int 0)] C (fun id D dm=>cond (Nat.beq id 0) (eJ P true 103 VI 240 [D 0,D 1,D 2,D 3,(int 0)] dm (fun id F G=>cond (Nat.beq id 2) (ad (ar P .leq 3 false (F 3) (F 2)) fun I=>aE I (aH (F 1) 3 fun L=>af (aw L G) fun c4 dj=>ay P 15 [c4] dj fun Q R=>ad (ar P .neq 3 true Q (int 1)) fun S=>ad (aI I S (.bool false)) fun T=>aa T R) (ad (aI I undef (.bool false)) fun J=>aa J G)) (False)) (fun F G=>aa (F 0) G)) (False)) (fun D dm=>aa (D 0) dm)))))
theorem aEQ:W2 P 3 ajK:=Wm2
end
end J
namespace J
open Go Go.Ab
variable{H:au}{S F X R ae:List (Nat×ax)}{aa:VH}{q bP q2:fA}{p dx bp:bX}{i cK n c4 s:Nat}{aq:List Value}{v:Value}
theorem most_spec{a b c:Int}(bn:0<=a/\a<=20)(ah:aa (int (2*a+((max 0 (min b 100)).toNat:Int)*(2*(eK c:Int)+3)+202)) H):ay P 13 [int a,int b,int c] H aa:=by
 apply aqK;unfold aar;have U:=Bz c;have hm:0<=max 0 (min b 100)/\max 0 (min b 100)<=100:=by omega
 refine bW tl (bW x3 (bW tl (bW x3 ?_)));rw[<- U.2.2,<- Int.toNat_of_nonneg hm.1];have ayh:(max 0 (min b 100)).toNat<=100:=by omega
 generalize (max 0 (min b 100)).toNat=r at*;generalize eK c=d at*;have zH:((r:Nat):Int)*(2*(d:Int)+3)=((r*(2*d+3):Nat):Int):=by rfl
 have j7:r*(2*d+3)<=100*35:=Nat.mul_le_mul (by omega) (by omega);refine ag (vA (by omega) (by omega)) (ag (vA (by omega) (by omega)) (ag (jg (by omega) (by omega)) (ag (vA (by omega) (by omega)) ?_)));rw[zH];refine ag (jg (by omega) (by omega)) (ag (jg (by omega) (by omega)) ?_);rw[<- zH];exact ah
variable[cu:b0]
theorem bound_L0{eh b2 pv:Value}{xs:List Int}{bC:LX}{ch:LN}(oB:n<=20)(ao:RdB S pv xs)(ak:cE xs)(aU:xs.length<=400)(an:F[i]?=some (cK,⟨aq,true⟩))(hv:aq[3]?=some (ai q.db 0))(h1:V.Cn n c4 0 p)(sQ:c4<=100000)(h:cz H S F q p 30)
  (ah:∀ab X cp cI s,q.et cp->V.Cn n c4 s cI->cz ab (S++X) F cp cI 430->bC 0 [eh,ai cK 0,b2,int s] ab):
  eJ P true 103 VG 240 [eh,ai cK 0,b2,int 0,pv,int xs.length,int 0] H bC ch:=by
 refine aEN (fun k aA ab=>∃(y:Nat) (X:List (Nat×ax)) (cp:fA) (cI:bX) (s:Nat),y<=xs.length/\k=xs.length-y/\aA=[eh,ai cK 0,b2,int s,pv,int xs.length,int y]/\q.et cp/\V.Cn n c4 s cI/\cz ab (S++X) F cp cI (30+y)) _ _ ?_ xs.length _ _ ⟨0,[],q,p,0,zero_le _,rfl,rfl,.fC,h1,by rw[append_nil];exact h⟩;rintro k aA H ⟨y,X,cp,cI,s,ba,rfl,rfl,al,h1,h⟩;unfold ajH
 try simp only[cj,ck]
 refine ag fr (bF (fun dw=>?_) (fun dw=>?_));have gR:y<xs.length:=by omega
 have la:(ar P .add 3 true).f (int y) (int 1)=some (int ((y+1:Nat):Int)):=by grind[jg]
 have incs:(ar P .add 3 true).f (int s) (int 1)=some (int ((s+1:Nat):Int)):=by have:=h1.dO;grind[jg]
 obtain⟨s9,ll,q9,uL,pX,rfl,uM,pb⟩:=UH ao gR;refine ag (jD (by omega) (by omega)) ?_;obtain⟨aX,R,U,hO⟩:=h;refine aY hO uL (aL (aL (aL uM))) pb ?_;have h:cz H (S++X) F cp cI (30+y):=⟨aX,R,U,hO⟩;refine aV (h.fM an (by omega) ?_);have FA:=ak xs[y] (getElem_mem gR);refine bW (NL FA) ?_;obtain⟨m,hm⟩:=Int.eq_ofNat_of_zero_le FA.1;rw[hm];refine ag (uN (b:=4) (by decide)) ?_;rw[<- al.db];have aB:=h1.step (ct:=((m%4:Nat):Int)) oB;refine sW (by omega) h ?_;intro H q2 lb hl h;have h:=h.mono (sV:=30+(y+1)) (by omega);rw[append_assoc]at h;refine qj (fun ak=>?_) (fun ak=>?_);rw[ak,if_pos rfl]at aB;exact ag incs (ag la (⟨_,by omega,y+1,X++lb,q2,_,s+1,gR,rfl,rfl,al.trans hl,aB,h⟩));rw[ak,if_neg (by simp)]at aB;exact ag la (⟨_,by omega,y+1,X++lb,q2,_,s,gR,rfl,rfl,al.trans hl,aB,h⟩);exact ah H X cp cI s al h1 (h.mono (by omega))
theorem bound_L2{eh b2 kJ:Value}{dM:bX}{me N0:Nat}{bC:LX}{ch:LN}(oB:n<=20)(nw:N0<=900000)(an:F[i]?=some (cK,⟨aq,true⟩))(hv:aq[3]?=some (ai q.db 0))(hp0:dM.st=1)(rF:V.rY n dM)(EL:V.Cn n c4 me dM)(sQ:c4<=100000)(h:cz H S F q dM N0)
  (ah:∀ab X cp cI s,q.et cp->V.Cn n c4 s cI->me<s->cz ab (S++X) F cp cI (N0+4)->bC 4 [eh,ai cK 0,b2,int s,kJ] ab):
  eJ P true 103 VJ 1264 [eh,ai cK 0,b2,int me,kJ,int 0] H bC ch:=by
 refine aEP (fun k aA ab=>∃(y:Nat) (X:List (Nat×ax)) (cp:fA) (cI:bX) (s:Nat),y<=4/\k=4-y/\aA=[eh,ai cK 0,b2,int s,kJ,int y]/\q.et cp/\V.ps n c4 me s dM cI y/\cz ab (S++X) F cp cI (N0+y)) _ _ ?_ 4 _ _ ⟨0,[],q,dM,me,zero_le _,rfl,rfl,.fC,⟨EL,Nat.le_refl _,.inr ⟨⟨_,rfl⟩,fun w aM=>absurd aM (by omega)⟩⟩,by rw[append_nil];exact h⟩;rintro k aA H ⟨y,X,cp,cI,s,ba,rfl,rfl,al,h1,h⟩;unfold ajJ
 try simp only[cj,ck]
 refine ag fr (bF (fun dw=>?_) (fun dw=>?_))
 ·have la:(ar P .add 3 true).f (int y) (int 1)=some (int ((y+1:Nat):Int)):=by grind[jg]
  have incs:(ar P .add 3 true).f (int s) (int 1)=some (int ((s+1:Nat):Int)):=by have:=h1.ya.dO;grind[jg]
  refine aV (h.fM an (by omega) ?_);rw[<- al.db];have aB:=h1.step oB hp0 rF;refine sW (by omega) h ?_;intro H q2 lb hl h;have h:=h.mono (sV:=N0+(y+1)) (by omega);rw[append_assoc]at h;refine qj (fun ak=>?_) (fun ak=>?_)
  ·rw[ak,if_pos rfl]at aB;exact ag incs (ag la (⟨_,by omega,y+1,X++lb,q2,_,s+1,by omega,rfl,rfl,al.trans hl,aB,h⟩))
  ·rw[ak,if_neg (by simp)]at aB;exact ag la (⟨_,by omega,y+1,X++lb,q2,_,s,by omega,rfl,rfl,al.trans hl,aB,h⟩)
 ·have e:y=4:=by omega
  subst e;exact ah H X cp cI s al h1.ya (h1.done hp0 rF) h
theorem bound_L1{eh:Value}{bC:LX}{ch:LN}{B:Nat}(oB:n<=20)(an:F[i]?=some (cK,⟨aq,true⟩))(hv:aq[3]?=some (ai q.db 0))(h1:V.Cn n c4 s p)(b6:c4+1<=B)(hB2:B<=50000)(h:cz H S F q p 430)
  (ah:∀ab X cp cI cl,q.et cp->cI.st≠1->cl<=c4+1->cz ab (S++X) F cp cI 300000->bC 2 [eh,ai cK 0,int B,int cl] ab):
  eJ P true 103 VI 240 [eh,ai cK 0,int B,int s,int 0] H bC ch:=by
 refine aEO (fun k aA ab=>∃(y:Nat) (X:List (Nat×ax)) (cp:fA) (cI:bX) (cl:Nat),y<=cl/\k=B+2-y/\y<=B+1/\aA=[eh,ai cK 0,int B,int cl,int y]/\q.et cp/\V.Cn n c4 cl cI/\cz ab (S++X) F cp cI (430+4*y)) _ _ ?_ (B+2) _ _ ⟨0,[],q,p,s,zero_le _,by omega,by omega,rfl,.fC,h1,by rw[append_nil];exact h⟩;rintro k aA H ⟨y,X,cp,cI,cl,ba,rfl,hyB,rfl,al,h1,h⟩;unfold ajI;have j7:=h1.dO;have dy:cI.st≠1->bC 2 [eh,ai cK 0,int B,int cl] H:=fun ev=>ah H X cp cI cl al ev h1.dO (h.mono (by omega))
 refine e3 (fun aA ab=>aA=[eh,ai cK 0,int B,int cl,int y]/\ab=H/\y<=B/\cI.st=1) ?_ ?_
 try simp only[cj,ck]
 refine ag HE (bF (fun h2=>?_) (fun h2=>?_));refine aV (h.fM an (by omega) ?_);rw[<- al.db];refine uW h (ag e2 (ag (gA h2) (bF (fun h3=>?_) (fun h3=>?_))))
 simp_all
 exact dy h3;exact ag (gP h2) (dP rfl (dy fun ev=>by omega));rintro aA ab ⟨rfl,rfl,dw,ev⟩
 try simp only[cj,ck]
 refine bound_L2 (N0:=430+4*y) oB (by omega) an (by rw[hv,al.db]) ev (h1.lv ev).1 h1 (by omega) h ?_;intro H lb q2 bp cP hl aB ZT h;show cond (Nat.beq 4 4) _ _;rw[beq_refl];refine ag (v:=int ((y+1:Nat):Int)) (by grind[cj,ck,jg]) ?_;rw[append_assoc]at h;exact⟨_,by omega,y+1,X++lb,q2,bp,cP,by omega,rfl,by omega,rfl,al.trans hl,aB,h.mono (by omega)⟩
theorem pbound_main{w:ew}{wv ov fv kv pv:Value}{xs:List Int}(aM:pB ae w wv ov fv kv)(ao:RdB ae pv xs)(ak:cE xs)(hO:aj H ae)(hZ:∀H,aa (.bool true) H):ay P 3 [agg (fI w wv ov fv kv),pv] H aa:=by
 apply aEQ;unfold ajK;rw[sa];refine dH hO ?_;intro dM H hO;refine NY hO ?_;intro zW H X _ hO;refine ag ix (dP rfl ?_);have rK:pB (ae++X) w wv ov fv kv:=aM.app;have qg:RdB (ae++X) pv xs:=ao.app;generalize ae++X=S at*;refine e3 (fun aA ab=>aA=[pv,ai dM 0,.bool false]/\w.ko/\xs.length<=400/\aj ab (S++[(dM,⟨fI w wv ov fv kv,true⟩)])) ?_ ?_;refine gh hO (S.length+0) (az rfl) (n:=16) rfl (by omega) (UM rK hO (fun ab=>?_) (fun hf ab hO=>?_));exact eT rfl (ag j9 (eT rfl (hZ _)));refine dP rfl (bW qg.bO (ag kS (ag km (bF (fun h1=>?_) (fun h1=>?_)))));exact hZ _;exact⟨rfl,hf,by omega,hO⟩;rintro aA H ⟨rfl,hf,hm,hO⟩
 try simp only[cj,ck]
 refine gh hO (S.length+0) (az rfl) (n:=16) rfl (by omega) (Gm hf rK hO ?_ ?_);intro aJ tR H cK cO bz b8 G hO;refine e3 (fun aA ab=>aA=[pv,ai dM 0,.bool false,ai cK 0,.bool true]/\ab=H) ?_ ?_;exact ag (zZ _) (dP rfl (aV (aY hO (G.length+0) (az rfl) (v:=.pointer none) rfl (ag Vj (ag km (⟨rfl,rfl⟩))))));rintro aA ab ⟨rfl,rfl⟩
 try simp only[cj,ck]
 refine eT rfl (ag (Vl _) (eT rfl (aV (aY hO (G.length+0) (az rfl) (v:=int (oz.gS w.cb.iK w.cb.aC).2.1) rfl (ag ij (ag j9 ?_))))));rw[decide_eq_true aJ];exact hZ _;intro aJ tR H cK q lb _ _ hg;have Fc:=hf.s;obtain⟨n,aU⟩:=Int.eq_ofNat_of_zero_le (show 0<=w.lR by omega);have aU:w.lR=(n:Int):=aU;have oB:n<=20:=by omega
 have sZ:([(dM,(⟨fI w wv ov fv kv,true⟩:ax))]++[(cK,(⟨ku q,true⟩:ax))])[0]?=some (dM,⟨fI w wv ov fv kv,true⟩):=rfl;have an:([(dM,(⟨fI w wv ov fv kv,true⟩:ax))]++[(cK,(⟨ku q,true⟩:ax))])[[(dM,(⟨fI w wv ov fv kv,true⟩:ax))].length+0]?=some (cK,⟨ku q,true⟩):=az rfl;refine e3 (fun aA ab=>aA=[pv,ai dM 0,.bool false,ai cK 0,.bool false]/\ab=H) ?_ ?_;exact ag (zZ _) (dP rfl (aV (hg.cB (nc .fC) (ag (Gs _) (ag km (⟨rfl,rfl⟩))))));rintro aA ab ⟨rfl,rfl⟩
 try simp only[cj,ck]
 refine dP rfl (ag b7 (hg.fM sZ (v:=int w.lR) rfl (ag b7 (ag b7 (hg.fM sZ (v:=int w.fl.iS) rfl (ag b7 (ag b7 (hg.fM sZ (v:=int w.fl.eu) rfl (most_spec (by omega) ?_)))))))));obtain⟨rF,ht0,hst0⟩:=V.bd0 aJ aU;have U:=Bz w.fl.eu;have zH:(((max 0 (min w.fl.iS 100)).toNat:Nat):Int)*(2*(eK w.fl.eu:Int)+3)=(((max 0 (min w.fl.iS 100)).toNat*(2*eK w.fl.eu+3):Nat):Int):=by rfl
 have j7:(max 0 (min w.fl.iS 100)).toNat*(2*eK w.fl.eu+3)<=100*35:=Nat.mul_le_mul (by omega) (by omega);have b6:(2*w.lR+(((max 0 (min w.fl.iS 100)).toNat:Nat):Int)*(2*(eK w.fl.eu:Int)+3)+202)=((V.M0 n w.fl.iS w.fl.eu+2:Nat):Int):=by grind[V.M0]
 have sQ:V.M0 n w.fl.iS w.fl.eu<=4000:=by omega
 rw[b6];have hcn:V.Cn n (V.M0 n w.fl.iS w.fl.eu) 0 (kg w):=⟨zero_le _,fun _=>⟨rF,by omega⟩⟩;generalize V.M0 n w.fl.iS w.fl.eu=c4 at*;generalize kg w=Vq at hg hcn;refine bW qg.bO (bound_L0 oB qg.app ak hm an (nc .fC) hcn (by omega) hg ?_);intro H DQ bP dx dt al hcn hg;show cond (Nat.beq 0 0) _ _;rw[beq_refl]
 try simp only[cj,ck]
 refine bound_L1 oB an (nc al) hcn (by omega) (by omega) hg ?_;intro H yE q2 bp cP hl ev hle2 hg;have al:=al.trans hl;show cond (Nat.beq 2 2) _ _;rw[beq_refl]
 try simp only[cj,ck]
 refine ag HE (oa (by omega) (aV (hg.fM an (nc al) (uW hg (ag ij (ag (gA (by omega)) ?_))))));rw[decide_eq_true ev];exact hZ _
end J
namespace J
open Go Go.Ab
theorem arg_byP{cN:List TypeId}{N:Nat}{av:List Value}{b:List (List Value)}(h:pe P (22::cN) N av b):
  ∃v vs b1 b2 xs,av=v::vs/\b=b1++b2/\RdB (kK N b1) v xs/\cE xs/\pe P cN (N+b1.length) vs b2:=by
 obtain⟨v,vs,b1,b2,e,CI,h1,h2⟩:=YV h (by rw[MZ];simp) (by rw[MZ];simp);obtain⟨aQ,bV,d1,d2,xs,a7,bt,r,q,h3⟩:=Gu h1;obtain⟨rfl,rfl⟩:=Lo h3;injection a7 with a7 _
 subst a7;rw[append_nil]at bt;subst bt;exact⟨v,vs,b1,b2,xs,e,CI,r,q,h2⟩
end J
