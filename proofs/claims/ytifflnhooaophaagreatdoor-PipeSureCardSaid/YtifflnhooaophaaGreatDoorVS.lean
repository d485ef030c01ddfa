/- texts of the nF, e5 behind the l0 -/
import Derived.Test.YtifflnhooaophaaGreatDoorVC
set_option linter.unusedVariables false
set_option linter.unusedSimpArgs false
set_option linter.unusedSectionVars false
set_option maxHeartbeats 16000000
set_option maxRecDepth 100000
open List Nat
namespace J
open Go Go.Ab
noncomputable section
noncomputable abbrev Tm:Code:=gT P 8 0
noncomputable abbrev Tn:Code:=gT P 8 1
noncomputable abbrev To:Code:=gT P 8 2
def agT:LF:=fun l H N bL cy=>ad (au P .lss 3 false (l 6) (l 5)) fun a=>aG a (ad (gd 3 (l 4) (l 6)) fun b=>af (bT 3 b H) fun c d=>cp (cQ P 72) d fun e f=>af (bm 3 e c f) fun g h=>e3 (fun i=>ad (bF 0 e) fun j=>af (ax j h) fun k m=>ad (au P .eql 3 true k (int 1)) fun n=>aG n (aL (l 2) 3 fun p=>af (ax p m) fun q r=>ad (bF 1 e) fun s=>af (ax s r) fun t u=>az P 24 [q,t] u fun v w=>i [l 0,l 1,l 2,l 3,l 4,l 5,l 6] w) (ad (au P .eql 3 true k (int 2)) fun o=>aG o (aL (l 2) 3 fun q=>af (ax q m) fun r s=>az P 29 [r] s fun t u=>i [l 0,l 1,l 2,l 3,l 4,l 5,l 6] u) (ad (au P .eql 3 true k (int 3)) fun p=>aG p (aL (l 2) 0 fun r=>af (ax r m) fun s t=>az P 22 [s] t fun u v=>ad (bF 1 e) fun w=>af (ax w v) fun x y=>ea (dV t v) (b9 [w])/\(az P 33 [u,x] y fun z A=>i [l 0,l 1,l 2,l 3,l 4,l 5,l 6] A)) (aL (l 2) 3 fun r=>af (ax r m) fun s t=>ad (bF 1 e) fun u=>af (ax u t) fun v w=>az P 14 [s,v] w fun x y=>i [l 0,l 1,l 2,l 3,l 4,l 5,l 6] y)))) (fun i j=>aL (i 2) 0 fun m=>af (ax m j) fun n o=>az P 30 [n] o fun p q=>af (bP p q) fun r s=>eI P true 247 Tn 4132070672510939562100 [i 0,i 1,i 2,i 3,i 4,i 5,i 6,p,r,(int 0)] s (fun id t u=>cond (Nat.beq id 3) (ad (au P .add 3 true (t 6) (int 1)) fun v=>N [t 0,t 1,t 2,t 3,t 4,t 5,v] u) (cond (Nat.beq id 1) (ad (au P .add 3 true (t 6) (int 1)) fun v=>N [t 0,t 1,t 2,t 3,t 4,t 5,v] u) (bL id [t 0,t 1,t 2,t 3] u))) (fun t u=>cy [t 0,t 1,t 2,t 3] u))) (bL 0 [l 0,l 1,l 2,l 3] H)
theorem aBj:LpI P 247 Tm 116 agT:=.mk
def agU:LF:=fun l H N bL cy=>ad (au P .lss 3 false (l 6) (l 5)) fun a=>aG a (ad (gd 32 (l 4) (l 6)) fun b=>af (bT 32 b H) fun c d=>cp (cQ P 52) d fun e f=>af (bm 32 e c f) fun g h=>af (bT 37 (l 2) h) fun i j=>az P 36 [i,l 6] j fun k m=>ad (ee 0 k) fun n=>ad (ee 1 k) fun o=>ad (au P .add 3 false n o) fun p=>ad (gL 1 (l 3) (some n) (some p) none) fun q=>az P 35 [q] m fun r s=>af (bT 32 e s) fun t u=>ea (dV m s) (b9 [e])/\(ad (au P .neq 52 false r t) fun v=>aG v (cy [l 0,(.bool false),l 2] u) (ad (au P .add 3 true (l 6) (int 1)) fun w=>N [l 0,l 1,l 2,l 3,l 4,l 5,w] u))) (bL 5 [l 0,l 1,l 2] H)
theorem aBk:LpI P 247 To 2068 agU:=.mk
def agV:LF:=fun l H N bL cy=>ad (au P .lss 3 false (l 9) (l 8)) fun a=>aG a (ad (gd 4 (l 7) (l 9)) fun b=>af (bT 4 b H) fun c d=>cp (cQ P 86) d fun e f=>af (bm 4 e c f) fun g h=>ad (bF 3 e) fun i=>af (ax i h) fun j k=>ad (bF 12 (l 0)) fun m=>ad (bF 0 m) fun n=>af (ax n k) fun o p=>ad (au P .neq 3 false j o) fun q=>aG q (ad (aY q (.bool true) undef) fun r=>aG r (cy [l 0,(.bool false),l 2,l 3,l 4,l 5,l 6] p) (ad (au P .add 3 true (l 9) (int 1)) fun s=>N [l 0,l 1,l 2,l 3,l 4,l 5,l 6,l 7,l 8,s] p)) (ad (bF 1 e) fun r=>af (ax r p) fun s t=>ad (bF 12 (l 0)) fun u=>ad (bF 1 u) fun v=>af (ax v t) fun w x=>ad (au P .add 3 true (int 1) w) fun y=>ad (au P .neq 3 false s y) fun z=>ad (aY q (.bool true) z) fun A=>aG A (cy [l 0,(.bool false),l 2,l 3,l 4,l 5,l 6] x) (ad (au P .add 3 true (l 9) (int 1)) fun B=>N [l 0,l 1,l 2,l 3,l 4,l 5,l 6,l 7,l 8,B] x))) (bL 3 [l 0,l 1,l 2,l 3,l 4,l 5,l 6] H)
theorem aBl:LpI P 247 Tn 4132070672510939562100 agV:=.mk
def agW:V2:=fun t0 aW H ab=>cp (cZ t0) H fun a b=>az P 10 [] b fun c d=>ad (hQ .not c) fun e=>aG e (ab (.bool false) d) (e3 (fun f=>af (bT 16 a d) fun g h=>az P 11 [g] h fun i j=>aG i (ad (aY i (.bool true) undef) fun k=>ad (aY k (.bool true) undef) fun m=>ad (aY m (.bool true) undef) fun n=>aG n (ab (.bool true) j) (f [aW,a,(.bool false)] j)) (af (bP aW j) fun k m=>ad (au P .gtr 3 true k (int 250)) fun n=>ad (aY i (.bool true) n) fun o=>aG o (ad (aY o (.bool true) undef) fun p=>ad (aY p (.bool true) undef) fun q=>aG q (ab (.bool true) m) (f [aW,a,(.bool false)] m)) (ad (bF 12 a) fun p=>ad (bF 1 p) fun q=>af (ax q m) fun r s=>ad (au P .lss 3 true r (int 0)) fun t=>ad (aY o (.bool true) t) fun u=>aG u (ad (aY u (.bool true) undef) fun v=>aG v (ab (.bool true) s) (f [aW,a,(.bool false)] s)) (ad (bF 12 a) fun v=>ad (bF 1 v) fun w=>af (ax w s) fun x y=>ad (au P .gtr 3 true x (int 1)) fun z=>ad (aY u (.bool true) z) fun A=>aG A (ab (.bool true) y) (f [aW,a,(.bool false)] y))))) (fun f g=>af (bT 16 (f 1) g) fun h i=>az P 12 [h] i fun j k=>e3 (fun m=>ad (au P .eql 34 true j (.pointer none)) fun n=>aG n (ad (aY n (.bool true) undef) fun o=>m [f 0,f 1,f 2,j,o] k) (aL j 3 fun p=>af (ax p k) fun q r=>ad (au P .eql 39 true q (.pointer none)) fun s=>ad (aY n (.bool true) s) fun t=>m [f 0,f 1,f 2,j,t] r)) (fun m n=>aG (m 4) (ad (au P .neq 34 true (m 3) (.pointer none)) fun o=>aG o (aL (m 3) 4 fun q=>af (ax q n) fun r s=>ad (au P .neq 40 true r (int 0)) fun t=>ad (aY o t (.bool false)) fun u=>ab u s) (ad (aY o undef (.bool false)) fun p=>ab p n)) (aL (m 3) 0 fun p=>af (ax p n) fun q r=>ad (bF 12 (m 1)) fun s=>ad (bF 1 s) fun t=>af (ax t r) fun u v=>ad (au P .sub 3 true (int 2) u) fun w=>az P 18 [q,w] v fun x y=>af (n1 x y) fun z A=>af (bP (m 0) A) fun B C=>eI P true 247 Tm 116 [m 1,m 2,m 3,z,m 0,B,(int 0)] C (fun id D df=>cond (Nat.beq id 0) (aL (D 2) 0 fun G=>af (ax G df) fun I J=>ad (bF 12 (D 0)) fun L=>ad (bF 1 L) fun ev=>af (ax ev J) fun dt Q=>ad (au P .sub 3 true (int 2) dt) fun R=>az P 18 [I,R] Q fun S T=>af (n1 S T) fun gV V=>ad (au P .neq 9 false gV (D 3)) fun W=>aG W (ab (.bool false) V) (aL (D 2) 3 fun h5=>af (ax h5 V) fun gW a0=>az P 15 [gW] a0 fun c1 c2=>ad (au P .neq 3 true c1 (int 2)) fun a3=>aG a3 (ab (.bool true) c2) (aL (D 2) 3 fun a5=>af (ax a5 c2) fun kC lW=>az P 17 [kC] lW fun nu a9=>ad (ee 0 nu) fun j9=>ad (ee 1 nu) fun b1=>cp (cQ P 55) a9 fun b2 hB=>af (bm 37 b2 j9 hB) fun ml lS=>aL (D 2) 0 fun uo=>af (ax uo lS) fun tl x8=>ad (bF 12 (D 0)) fun pw=>ad (bF 1 pw) fun eP=>af (ax eP x8) fun dR ij=>ad (au P .add 3 true (int 1) dR) fun nv=>az P 18 [tl,nv] ij fun pL vB=>e3 (fun o5=>ad (hQ .not b1) fun rQ=>aG rQ (ad (aY rQ (.bool true) undef) fun uq=>ad (aY uq (.bool true) undef) fun d0=>ad (aY d0 (.bool true) undef) fun d1=>ad (aY d1 (.bool true) undef) fun d2=>aG d2 (ab (.bool false) vB) (o5 [D 0,D 1,b2,pL] vB)) (af (bT 37 b2 vB) fun uq d0=>az P 34 [uq] d0 fun d1 d2=>ad (hQ .not d1) fun kT=>ad (aY rQ (.bool true) kT) fun oo=>aG oo (ad (aY oo (.bool true) undef) fun vC=>ad (aY vC (.bool true) undef) fun x9=>ad (aY x9 (.bool true) undef) fun ya=>aG ya (ab (.bool false) d2) (o5 [D 0,D 1,b2,pL] d2)) (af (bP pL d2) fun vC x9=>ad (bF 2 b2) fun ya=>af (ax ya x9) fun BA yb=>ad (au P .lss 3 false vC BA) fun ic=>ad (aY oo (.bool true) ic) fun bb=>aG bb (ad (aY bb (.bool true) undef) fun bt=>ad (aY bt (.bool true) undef) fun dZ=>aG dZ (ab (.bool false) yb) (o5 [D 0,D 1,b2,pL] yb)) (ad (bF 2 b2) fun bt=>af (ax bt yb) fun dZ iX=>ad (gL 1 pL none (some dZ) none) fun h0=>az P 35 [h0] iX fun jm ue=>ad (bF 4 b2) fun xD=>af (bT 32 xD ue) fun x4 pD=>ea (dV iX ue) (b9 [xD])/\(ad (au P .neq 52 false jm x4) fun gM=>ad (aY bb (.bool true) gM) fun gN=>aG gN (ad (aY gN (.bool true) undef) fun mU=>aG mU (ab (.bool false) pD) (o5 [D 0,D 1,b2,pL] pD)) (aL (D 2) 0 fun lE=>af (ax lE pD) fun pE rF=>az P 22 [pE] rF fun wL f8=>az P 23 [wL] f8 fun Gq tb=>ad (au P .neq 3 true Gq (int 0)) fun b7=>ad (aY gN (.bool true) b7) fun ca=>aG ca (ab (.bool false) tb) (o5 [D 0,D 1,b2,pL] tb))))))) (fun o5 rQ=>ad (bF 36 (o5 2)) fun uq=>af (ax uq rQ) fun d0 d1=>af (bP d0 d1) fun d2 kT=>eI P true 247 To 2068 [o5 0,o5 1,o5 2,o5 3,d0,d2,(int 0)] kT (fun id oo vC=>cond (Nat.beq id 5) (af (bT 16 (oo 0) vC) fun x9 ya=>af (bT 37 (oo 2) ya) fun BA yb=>az P 37 [x9,BA] yb fun ic bb=>aG ic (af (bT 37 (oo 2) bb) fun bt dZ=>ad (bF 5 (oo 0)) fun iX=>ad (bF 1 iX) fun h0=>af (ax h0 dZ) fun jm ue=>ad (bF 12 (oo 0)) fun xD=>ad (bF 3 xD) fun x4=>af (ax x4 ue) fun pD gM=>ad (bF 0 (oo 0)) fun gN=>af (ax gN gM) fun mU lE=>ad (au P .mul 3 true (int 64) mU) fun pE=>ad (c9 P 94 [(0,jm),(1,pD),(2,pE)]) fun rF=>az P 38 [bt,rF] lE fun wL f8=>ad (au P .eql 3 true wL (int 0)) fun Gq=>ad (aY ic Gq (.bool false)) fun tb=>ab tb f8) (ad (aY ic undef (.bool false)) fun bt=>ab bt bb)) (False)) (fun oo vC=>ab (oo 1) vC))))) (False)) (fun D df=>ab (D 1) df)))))
theorem aBm:W2 P 8 agW:=Wm2
end
end J
namespace J
open Go Go.Ab
variable{S X:List (Nat×ay)}{v:Value}{ak:List Int}
def L8(S:List (Nat×ay))(v:Value)(ak:List Int):Prop:=(v=bq/\ak=[])\/∃(p c j:Nat) (w:Bool),v=aC p 0 ak.length c/\S[j]?=some (p,(⟨ak.map (Value.int .i64),w⟩:ay))
theorem L8.app(h:L8 S v ak):L8 (S++X) v ak:=by
 rcases h with h|⟨p,c,j,w,h1,h2⟩
 exact .inl h;exact .inr ⟨p,c,j,w,h1,aK h2⟩
structure x0 where
 qA:List Int
 bx:Nat
 gb:Nat
 vR:Nat
 eb:Nat
 Tp:Nat
 wr:List Int
 agX:List Int
 gp:List Int
 aC:Bool
structure Tq (S:List (Nat×ay)) (g:x0) (sU wv eK bY:Value):Prop where
 aBn:b3 S sU g.qA
 nq:cl g.qA
 is:1<=g.qA.length->qo S sU
 aBo:L8 S wv g.wr
 aBp:b3 S eK g.agX
 ew:cl g.agX
 dq:b3 S bY g.gp
 rl:cl g.gp
 bx:g.bx<256
 gb:g.gb<256
 vR:g.vR<256
 eb:g.eb<65536
 Tp:g.Tp<65536
theorem Tq.app{g:x0}{sU wv eK bY:Value}(h:Tq S g sU wv eK bY):Tq (S++X) g sU wv eK bY:=
 ⟨h.aBn.app,h.nq,fun aE=>(h.is aE).app,h.aBo.app,h.aBp.app,h.ew,h.dq.app,h.rl,h.bx,h.gb,h.vR,h.eb,h.Tp⟩
end J
namespace J
open Go Go.Ab
variable[cr:bW]
variable{H:ar}
theorem agY(f:iY)(H:ar):(eg P 24 1).f [(0,agg (h9 f))] H=some (aC H.next 0 1 7,H.push (h9 f)):=by rfl
end J
namespace J
open Go Go.Ab
variable[cr:bW]
variable{H:ar}{S F R ae:List (Nat×ay)}{ab:VH}{q:hK}{p bw:dG}{N i:Nat}{ao:List Value}{v bY ct fv kv:Value}{w:ei}{aI:dm}{t:kJ}{c r1 r2 fe:Nat}{dK:Bool}{bA:Int}
theorem aBq(ok:aI.b6)(G3:eY ae bY aI.bo)(pI:ct=.pointer none\/∃st,ct=ai st 0)(aq:ae[i]?=some (c,⟨eU kv t r1 r2 fe aI bY ct dK bA,true⟩))(hO:aj H ae)
  (ag:∀aa aH,aj aa (ae++bB aH (fA aI.bo))->eY (bB aH (fA aI.bo)) aH aI.bo->ab (.tuple [agg (bM aI aH),.bool (Lv ct)].toArray) aa):az P 71 [ai c 0] H ab:=by
 apply apv;unfold Y3;have yY:=el (aT:=bY) ok.cX;rw[yr];refine c4 hO ?_;intro bw H hO;refine aU (hG hO i (aK aq) (awJ ok.cX) yY (by omega) (ja hO ?_));intro cM H hO
 replace hO:aj H (ae++[(bw,⟨bM cT bq,true⟩),(cM,⟨bM cT bq,true⟩)]):=hO
 refine kq hO 1 rfl rfl yY (nf G3.e5) ?_;intro H hO
 replace hO:aj H (ae++[(bw,⟨bM cT bq,true⟩),(cM,⟨bM aI bY,true⟩)]):=hO
 refine ah b0 (cw hO 1 rfl (q8 ok.cX) (aeX G3.app ok.dN ok.n hO ?_));intro H dS hO h1;refine ah b0 (fm hO (ae.length+1) (aK (aA rfl)) h1.e5 (by omega) (ae5 ok.cX) ?_);intro H hO;rw[set_append_left _ _ (by simp),Go.Ab.cb]at hO
 replace hO:aj H ((ae++[(bw,⟨bM cT bq,true⟩),(cM,⟨bM aI dS,true⟩)])++bB dS (fA aI.bo)):=hO
 refine fs hO (ae.length+1) (aK (aA rfl)) (el ok.cX) (by omega) (aU (aP hO i (aK (aK aq)) (BZ ok.cX) (ah (v:=.bool (Lv ct)) (by rcases pI with rfl|⟨st,rfl⟩<;>first|exact aw3|rfl) ?_)));have sl:=(List.getElem?_eq_some_iff.1 aq).1;have da:=J.aj.KY hO (i:=i) (j:=ae.length+0) (aK (aK aq)) (aK (aA rfl)) (by omega);refine e7 hO (ae.length+0) (aK (aA rfl)) (by rfl) (el ok.cX) (nf h1.e5) ?_;intro H hO;rw[set_append_left _ _ (by simp),Go.Ab.cb]at hO
 replace hO:aj H ((ae++[(bw,⟨bM aI dS,true⟩),(cM,⟨bM aI dS,true⟩)])++bB dS (fA aI.bo)):=hO
 refine⟨aw4 da,?_⟩;refine fs hO (ae.length+0) (aK (aA rfl)) (el ok.cX) (by omega) (ag H dS ?_ h1);rw[append_assoc]at hO;exact QT hO
theorem aBr(h:c8 H S F q p N)(ag:∀aa aH,eY (bB aH (fA p.c.aI.bo)) aH p.c.aI.bo->c8 aa S (F++bB aH (fA p.c.aI.bo)) q p N->ab (.tuple [agg (bM p.c.aI aH),.bool p.c.aw.isSome].toArray) aa):az P 17 [ai q.ew 0] H ab:=by
 obtain⟨aQ,R,U,hO⟩:=h;apply aoE;unfold X8;rw[yr];refine c4 hO ?_;intro a H hO;have aBs:=k3 (S:=S) (F:=F) (R:=R) (q:=q) (p:=p) (k:=6) (x:=(q.ew,⟨oF q p.w.cK p.st p.iT,true⟩)) rfl;have DE:=k3 (S:=S) (F:=F) (R:=R) (q:=q) (p:=p) (k:=0) (x:=(q.c,⟨q.bx p,true⟩)) rfl;refine aU (aP hO _ (aK aBs) (v:=ai q.c 0) rfl (aBq aQ.tz (aQ.w3.app.app.app) aQ.w4 (aK DE) hO ?_));intro H aH hO hv;rw[aQ.w5];refine ah jT (ah jU (e7 hO (_+0) (aK (aA rfl)) (by rfl) (el aQ.tz.cX) (nf hv.e5) ?_));intro H hO;rw[set_append_left _ _ (by simp),Go.Ab.cb]at hO
 replace hO:aj H ((((S++(F++R))++k2 q p)++[(a,⟨bM p.c.aI aH,true⟩)])++bB aH (fA p.c.aI.bo)):=hO
 refine fs hO (_+0) (aK (aA rfl)) (el aQ.tz.cX) (by omega) (ag H aH hv ⟨aQ,R,U,?_⟩);have de:aj H (((S++((F++bB aH (fA p.c.aI.bo))++R))++k2 q p)++[(a,⟨bM p.c.aI aH,true⟩)]):=
  hO.e4 (gI fun p=>by simp only[countP_append,countP_cons,countP_nil];omega)
 exact de.left
theorem EJ(q:hK)(p:dG):k2 q p=[(q.c,(⟨q.bx p,true⟩:ay)),(q.b8,⟨fp p.w.s q.L.cG,true⟩),(q.w,⟨q.W.jw p.w,true⟩),(q.bU,⟨fQ q.cd q.fv p.bI.dF,true⟩),(q.cD,mD p.d.fF p.d.lZ q.eC p.d.fa.length),(q.eC,mE p.d.fa),(q.ew,⟨oF q p.w.cK p.st p.iT,true⟩)]++du q.L p.w.m:=rfl
theorem c8.all{j6:Int}(h:c8 H S F q p N)(ag:∀aa v ao,e8 v (p.w.m.all j6) ao->c8 aa S (F++bB v ao) q p N->ab v aa):az P 18 [ai q.L.cG 0,int j6] H ab:=by obtain⟨aQ,R,U,hO⟩:=h;rw[EJ,<- append_assoc]at hO;refine adl aQ.m.ok hO ?_;intro H v ao hO hv;refine ag H v ao hv ⟨aQ,R,U,?_⟩;rw[EJ];exact hO.e4 (gI fun p=>by simp only[countP_append,countP_cons,countP_nil];omega)
theorem c8.yf(h:c8 H S F q p N)(ag:ab (ai q.L.ba 0) H):az P 22 [ai q.L.cG 0] H ab:=by obtain⟨aQ,R,U,hO⟩:=h;rw[EJ,<- append_assoc]at hO;exact atd hO ag
theorem aBt{L:kV}{m:bn}(hv:kp L m)(hO:aj H (ae++du L m))(ag:ab (int m.d.done.length) H):az P 23 [ai L.ba 0] H ab:=by apply aoK;unfold Yf;refine aU ?_;have h2:=du.BE hO;exact aP h2 (_+0) (aA rfl) (v:=L.dk) rfl (bV hv.d.bP ag)
theorem c8.aBu(h:c8 H S F q p N)(ag:ab (int p.w.m.d.done.length) H):az P 23 [ai q.L.ba 0] H ab:=by obtain⟨aQ,R,U,hO⟩:=h;rw[EJ,<- append_assoc]at hO;exact aBt aQ.own hO ag
theorem c8.aBv{m:dm}{aT:Value}{qk:Value->VH}(h:c8 H S F q p N)(hm:m.cD.length=32)(aD:eA aT=true)(ag:∀e aa u,c8 aa S (F++[(e,⟨bM m aT,true⟩)]) q p N->qk (ai e 0) u aa):cp (cQ P 55) H fun e f=>af (bm 37 e (agg (bM m aT)) f) fun g h=>qk e g h:=by
 obtain⟨aQ,R,U,hO⟩:=h;rw[yr];refine c4 hO ?_;intro e H hO;refine e7 hO (_+0) (aA rfl) rfl (el hm) (nf aD) ?_;intro H hO
 replace hO:=hO.cb
 replace hO:aj H (((S++(F++R))++k2 q p)++[(e,⟨bM m aT,true⟩)]):=hO
 refine ag e H _ ⟨aQ,R,U,hO.e4 (gI fun p=>by grind)⟩
theorem c8.bl{ak:List Int}(h:c8 H S F q p N)(hv:b3 (S++F) v ak)(ag:ab (DB ak) H):af (n1 v H) ab:=by
 obtain⟨aQ,R,U,hO⟩:=h;have e:(S++(F++R))++k2 q p=(S++F)++(R++k2 q p):=by simp_all
 rw[e]at hO;exact bV (b3.bl hO hv.app) ag
end J
namespace J
open Go Go.Ab
end J
namespace J
open Go Go.Ab
namespace V
variable{l aF:ff}{k:iG}{bI zZ:jX}{n:Nat}{bJ:List (Int×List Int)}{eS:List j5}{b:Bool}{off:ir}{bj:List iY}{cz:List UInt8}{key:List Int}{t:kJ}{aI:dm}{w:bN}
def L9(off:ir)(bj:List iY)(cz:List UInt8)(bs:List Int):Prop:=∃f all,(f=⟨0,0,0⟩\/f∈bj)/\nC off (hs cz)=some all/\oD all 0 2304 f=(bs,0)
def agZ(aI:dm):j5->Prop
 | .nn _ m=>m=aI
 | .body a aX=>∃i:Nat,a=i/\(aX.length:Int)=(gm aI i).2/\hr aX=aI.bo.getD i []
 | _=>True
def Ma(off:ir)(bj:List iY)(cz:List UInt8)(key:List Int)(t:kJ)(m:dm):Prop:=∃bs,L9 off bj cz bs/\(fh key bs).2.2=0/\(fh key bs).1=m/\qs m t=0
structure Ad (off:ir) (bj:List iY) (cz:List UInt8) (key:List Int) (t:kJ) (l:ff) (k:iG) (bI:jX):Prop where
 dd:bI.off=off
 HY:∀f∈bI.bj,f∈bj
 k7:l.cz=cz
 bJ:∀q∈k.jA,q.1=-1->L9 off bj cz q.2
 eE:k.key=key
 EY:k.t=t
 jZ:k.aw=none->k.iS=[]
 lj:k.aw≠none->Ma off bj cz key t k.aI
 iS:∀x∈k.iS,agZ k.aI x
theorem aBw{s:j5}:(l.follow s).cz=l.cz:=by unfold ff.follow;grind
theorem aBx:l.on.cz=l.cz:=by grind[ff.on]
theorem aBy:l.try.2.cz=l.cz:=by grind[ff.try]
theorem Ad.aBz(h:Ad off bj cz key t l k bI)(U:mg n l k.jA k.eS bI=(b,aF,bJ,eS,zZ)):Ad off bj cz key t aF {k with jA:=bJ,eS:=eS} zZ:=by
 obtain⟨h1,h2,aB,bk,cj,dh,fP,hM,iC⟩:=h;unfold mg at U;split at U;cases U;exact⟨h1,h2,aB,bk,cj,dh,fP,hM,iC⟩;split at U;cases U;exact⟨h1,h2,aBw.trans aB,bk,cj,dh,fP,hM,iC⟩;split at U;cases U;exact⟨h1,h2,aB,bk,cj,dh,fP,hM,iC⟩;rename_i aM;unfold jX.nV at U;cases hf:nC bI.off (hs l.cz)with
 | none=>rw[hf]at U;simp only at U;rw[if_neg (by decide),if_neg (by decide)]at U;cases U;exact⟨h1,h2,aB,bk,cj,dh,fP,hM,iC⟩
 | some all=>
  rw[hf]at U;simp only at U;have aR:(bI.next.1=⟨0,0,0⟩\/bI.next.1∈bj)/\∀f∈bI.next.2,f∈bj:=by grind[jX.next]
  generalize hg:oD all l.k1.1 l.k1.2 bI.next.1=r at U;obtain⟨r1,r2⟩:=r;simp only at U;split at U;rename_i ic;cases U;refine⟨h1,aR.2,aBx.trans aB,?_,cj,dh,fP,hM,iC⟩;intro q cf AK;rcases mem_append.1 cf with cf|cf
  grind
  rcases mem_singleton.1 cf with rfl;have aE:l.fb=-1:=AK;have bp:l.k1=(0,2304):=by simp_all[ff.k1]
  rw[bp]at hg;refine⟨bI.next.1,all,aR.1,by simp_all,?_⟩
  grind
  split at U;cases U;exact⟨h1,aR.2,aBy.trans aB,bk,cj,dh,fP,hM,iC⟩;cases U;exact⟨h1,aR.2,aB,bk,cj,dh,fP,hM,iC⟩
theorem Ad.looks(h:Ad off bj cz key t l k bI)(he:k.step.2.bA=0):Ad off bj cz key t l k.step.2 bI/\(k.aw≠none->k.step.2.aI=k.aI/\k.step.2.aw≠none):=by
 have aN:=h;obtain⟨h1,h2,aB,bk,cj,dh,fP,hM,iC⟩:=h;unfold iG.step at he⊢;split
 simp_all
 rename_i aR;rw[if_neg aR]at he;cases aw:k.aw with
 | some v=>
  obtain⟨ak,w⟩:=v;simp only[aw]at he⊢;have hM:=hM (by grind);split;rename_i aM;rw[if_pos aM]at he;unfold iG.pF at he⊢;split
  simp_all
  split;refine⟨⟨h1,h2,aB,bk,cj,dh,fun h=>(by simp_all),fun _=>hM,?_⟩,fun _=>⟨rfl,by simp[aw]⟩⟩;intro x al;rcases mem_append.1 al with al|al
  grind
  rcases mem_singleton.1 al with rfl;trivial
  simp_all
  split
  simp_all
  rename_i p r ag0;have U:∀q∈r,q.1=-1->L9 off bj cz q.2:=fun q cf=>bk q (by simp_all)
  split
  simp_all
  simp only;split;rename_i xB;rw[aAI];split;rename_i nk;refine⟨⟨h1,h2,aB,U,cj,dh,fun h=>(by cases h),fun _=>hM,?_⟩,fun _=>⟨rfl,by simp⟩⟩;intro x al;rcases mem_append.1 al with al|al
  grind
  rcases mem_singleton.1 al with rfl;exact⟨w,rfl,nk.1,nk.2⟩;exact⟨⟨h1,h2,aB,U,cj,dh,fun h=>(by simp_all),fun _=>hM,iC⟩,fun _=>⟨rfl,by simp[aw]⟩⟩;exact⟨⟨h1,h2,aB,U,cj,dh,fun h=>(by simp_all[iG.yu]),fun _=>hM,iC⟩,fun _=>⟨rfl,by simp[iG.yu,aw]⟩⟩
 | none=>
  simp only[aw]at he⊢;have fP:=fP aw;split
  simp_all
  rename_i p r ag0;have U:∀q∈r,q.1=-1->L9 off bj cz q.2:=fun q cf=>bk q (by simp_all)
  simp only[ag0]at he;split
  simp_all
  rename_i XN;rw[if_neg XN]at he;simp only at he⊢;split;rename_i xB;rw[if_pos xB,agA]at he;rw[agA];split;exact⟨⟨h1,h2,aB,U,cj,dh,fun _=>fP,fun h=>absurd aw h,iC⟩,fun h=>absurd rfl h⟩;rename_i jo;rw[if_neg jo]at he;split
  simp_all
  rename_i CO;refine⟨⟨h1,h2,aB,U,cj,dh,fun h=>(by cases h),fun _=>⟨p.2,bk p (by simp_all) xB,?_,?_,?_⟩,?_⟩,fun h=>absurd rfl h⟩
  simp_all
  grind
  simp_all
  intro x al;rw[fP]at al;rcases mem_singleton.1 al with rfl;rfl;exact⟨⟨h1,h2,aB,U,cj,dh,fun _=>fP,fun h=>absurd aw h,iC⟩,fun h=>absurd rfl h⟩
end V
end J
namespace J
open Go Go.Ab
namespace V
variable{b bs D:List Int}{aI:dm}{dv n:Nat}{m iw cT:bn}{aC dw z a cq:Int}{d:bG}{x:List Int}{s:fM}{ej:Nat}
theorem aBA(h:b≠[]):lM b=uF (b.take 64)::lM (b.drop 64):=by
 have aE:0<b.length:=length_pos_iff.2 h;have e:oy b.length=oy (b.drop 64).length+1:=by grind[oy]
 unfold lM;rw[e,range_succ_eq_map,map_cons,map_map]
 congr 1
 refine map_congr_left fun k _=>?_
 simp only[Function.comp,drop_drop]
 grind
theorem ag1:∀(N:Nat) (b:List Int),b.length<=N->(lM b).flatten=b++List.replicate (64*oy b.length-b.length) 255
 | 0,b,h=>by have:b=[]:=length_eq_zero_iff.1 (by omega);subst this;rfl
 | N+1,b,h=>by
  by_cases an:b=[];subst an;rfl;have aE:0<b.length:=length_pos_iff.2 an;rw[aBA an,flatten_cons,ag1 N (b.drop 64) (by rw[length_drop];omega),length_drop];unfold uF;by_cases zQ:64<=b.length;rw[show 64-(b.take 64).length=0 by rw[length_take];omega,show oy (b.length-64)=oy b.length-1 by unfold oy;omega];rw[replicate_zero,append_nil,<- append_assoc,take_append_drop]
  congr 2
  unfold oy;omega;rw[take_of_length_le (by omega),drop_eq_nil_of_le (by omega),show b.length-64=0 by omega];rw[show oy b.length=1 by unfold oy;omega];simp[oy]
structure ju (aI:dm) (dv:Nat) (D:List Int):Prop where
 l:dv<aI.bo.length->D.length=dv*aI.bx.toNat
 c:∀i,i<dv->i*aI.bx.toNat+(gm aI i).2.toNat<=D.length/\hr ((D.drop (i*aI.bx.toNat)).take (gm aI i).2.toNat)=aI.bo.getD i []
theorem aBB(U:en aI)(h:dv+1<aI.bo.length):(gm aI dv).2=aI.bx:=by
 have iC:=U.2.2.2.2.2.2.2.2.1;unfold lY at iC;have h1:=U.2.2.2.1;have h2:=U.2.2.2.2.2.1;rw[if_neg (by omega)]at iC;have aB:((dv:Int)+1)<=(aI.cU-1)/aI.bx:=by omega
 have bk:=(Int.le_ediv_iff_mul_le (by omega)).1 aB;rw[Int.add_mul,Int.one_mul]at bk;unfold gm
 grind
theorem ju.body(U:en aI)(h:ju aI dv D)(an:(bs.length:Int)=(gm aI dv).2)(aN:(gm aI dv).2≠0)(aw:hr bs=aI.bo.getD dv []):ju aI (dv+1) (D++(lM bs).flatten):=by
 have tV:=agS aN;have aE:=h.l tV;rw[ag1 _ bs (Nat.le_refl _)];have h2:=U.2.2.2.2.2.1;have aB:=U.2.2.2.2.2.2.2.1;have o3:bs.length=(gm aI dv).2.toNat:=by omega
 refine⟨fun aR=>?_,fun i aq=>?_⟩
 grind[aBB,oy]
 by_cases e:i=dv
 simp_all
 obtain⟨eP,dR⟩:=h.c i (by omega)
 grind
theorem aBC{l:List Cell}{i j:Nat}{c:Cell}(h:i≠j):(l.set i c).getD j lq=l.getD j lq:=by grind
theorem ag2(Hk:a.toNat≠cq.toNat):(d.fz a x).1.eT cq=d.eT cq:=by unfold bG.fz;split;rfl;split;rfl;split;rfl;split;rfl;unfold bG.eT bG.gF bG.cell bG.put;simp only[length_set];rw[aBC Hk];rfl
theorem aBD(h:(d.fz a x).2=0):(d.fz a x).1.eT a=(x,0):=by
 unfold bG.fz at h⊢;split at h;cases h;rename_i h1;split at h;cases h;rename_i h2;split at h;cases h;rename_i aB;split at h;cases h;rename_i bk;rw[if_neg h1,if_neg h2,if_neg aB,if_neg bk];have bp:d.gF a:=Classical.not_not.1 h1;have aE:a.toNat<d.cells.length:=by have:=bp.1;have:=bp.2;omega
 have hh:(d.step.put a x).gF a:=by unfold bG.gF bG.put;simp only[length_set];exact bp
 show(d.step.put a x).eT a=_;unfold bG.eT;rw[if_pos hh];unfold bG.cell bG.put;simp only;rw[ayG (by exact aE),if_pos rfl]
theorem ag3:d.hj.1.eT a=d.eT a:=by
 unfold bG.hj;split;rfl;split;rfl
 grind[bG.eT,bG.gF,bG.cell,BD,afD]
abbrev yG(n:Nat):List (Nat×Nat):=[(0,1),(1,n),(1+n,n)]
theorem Ts(aw:m.hq=yG n)(an:k0 aC):m.fH (1+aC) z=if z<0\/(n:Int)<=z then(0,61)else((if aC=0 then 1 else 1+(n:Int))+z,0):=by
 obtain⟨gC,ms,aBE,kt⟩:=m;have aw:ms=yG n:=aw;subst aw;rcases an with rfl|rfl
 rfl;rfl
theorem ag4(aw:m.hq=yG n)(an:k0 aC):m.size (1+aC)=n:=by obtain⟨gC,ms,aBE,kt⟩:=m;have aw:ms=yG n:=aw;subst aw;rcases an with rfl|rfl<;>rfl
theorem ag5{u v:Int}(aw:m.hq=yG n)(an:k0 aC)(h1:(m.fH (1+aC) u).2=0)(h2:(m.fH (1+(1-aC)) v).2=0):(m.fH (1+aC) u).1.toNat≠(m.fH (1+(1-aC)) v).1.toNat:=by
 have jl:k0 (1-aC):=Hg an;rw[Ts aw an]at h1⊢;rw[Ts aw jl]at h2⊢
 grind
structure k5 (n:Nat) (dw aC:Int) (cT m:bn):Prop where
 ct:m.hq=yG n
 hF:∀z:Int,m.eT (1+(1-aC)) z=cT.eT (1+(1-aC)) z
 bf:∀o∈m.bf,o.eo=dw/\o.part=1+aC
theorem HC{j6:Int}(aw:iw.hq=m.hq)(h:(m.fH j6 z).2=0->iw.d.eT (m.fH j6 z).1=m.d.eT (m.fH j6 z).1):iw.eT j6 z=m.eT j6 z:=by
 unfold bn.eT;rw[agP aw]
 simp_all
theorem ag6{o:Op}{e:Int}(h:∀o∈m.bf,o.eo=dw/\o.part=1+aC)(aM:m.eo=dw)(bC:o.part=1+aC):∀x∈(m.o9 o e).bf,x.eo=dw/\x.part=1+aC:=by grind[bn.o9]
theorem k5.gG(h:k5 n dw aC cT m)(an:k0 aC)(aM:m.eo=dw):k5 n dw aC cT (m.gG (1+aC) a).1:=by refine⟨agQ.trans h.ct,fun z=>(HC agQ fun h2=>?_).trans (h.hF z),?_⟩;unfold bn.gG;split;rfl;rename_i h1;rw[HB.2];exact aBg (ag5 h.ct an (Classical.not_not.1 h1) h2);unfold bn.gG;split;exact h.bf;exact ag6 (m:={m with d:=_}) h.bf aM rfl
theorem k5.fz(h:k5 n dw aC cT m)(an:k0 aC)(aM:m.eo=dw):k5 n dw aC cT (m.fz (1+aC) a x).1:=by refine⟨Tl.trans h.ct,fun z=>(HC Tl fun h2=>?_).trans (h.hF z),?_⟩;unfold bn.fz;split;rfl;rename_i h1;rw[HB.2];exact ag2 (ag5 h.ct an (Classical.not_not.1 h1) h2);unfold bn.fz;split;exact h.bf;exact ag6 (m:={m with d:=_}) h.bf aM rfl
theorem k5.hj(h:k5 n dw aC cT m):k5 n dw aC cT m.hj.1:=⟨h.ct,fun z=>(HC (m:=m) (iw:=m.hj.1) rfl fun h2=>ag3).trans (h.hF z),h.bf⟩
theorem k5.as{f:bn->bn×Int}(h:k5 n dw aC cT m)(bh:s.dw=dw)(hf:∀m,k5 n dw aC cT m->m.eo=dw->k5 n dw aC cT (f m).1):k5 n dw aC cT (s.as m ej f).1:=by unfold fM.as;split;have:=hf {m with eo:=s.dw} ⟨h.ct,h.hF,h.bf⟩ bh;exact⟨this.ct,this.hF,this.bf⟩;exact h
end V
end J
namespace J
open Go Go.Ab
namespace V
variable{b bs:List Int}{aI:dm}{dv n y:Nat}{m iw cT:bn}{aC dw z a:Int}{d:bG}{x:List Int}{ak:List (List Int)}{w:bN}{s:fM}{bI:j5}{q:List j5}
structure sX (dw aC:Int) (w:bN):Prop where
 tQ:w.s.uE w.cK
 j:w.s.dw=dw
 di:w.s.dc=aC
 cP:w.dc=aC
 fS:w.s.fS=1
 cC:w.s.cC=2
 oC:k0 aC
theorem sX.part(h:sX dw aC w):w.s.part aC=1+aC:=by
 unfold fM.part;rcases h.oC with e|e<;>subst e
 rw[if_neg (by omega),if_pos rfl,h.fS];rfl;rw[if_neg (by omega),if_neg (by omega),h.cC];rfl
theorem sX.step(h:sX dw aC w):sX dw aC w.step.2:=by obtain⟨ep,hl,oe⟩:=af9 (w:=w);exact⟨by rw[ep,hl];exact h.tQ,by rw[ep];exact h.j,by rw[ep];exact h.di,by rw[oe];exact h.cP,by rw[ep];exact h.fS,by rw[ep];exact h.cC,h.oC⟩
theorem sX.hj(h:sX dw aC w)(bC:k5 n dw aC cT w.m):k5 n dw aC cT w.oz.m:=bC.as h.j fun m hm _=>hm.hj
theorem sX.rr(h:sX dw aC w)(bC:k5 n dw aC cT w.m):k5 n dw aC cT w.step.2.m:=by
 unfold bN.step;split;exact bC;split;show k5 n dw aC cT w.pe.m;unfold bN.pe;split;rename_i y _;show k5 n dw aC cT (w.s.as w.m w.cK (·.gG (w.s.part w.s.dc) y)).1;rw[h.di,h.part];exact bC.as h.j fun m hm aM=>hm.gG h.oC aM
 omega;split;show k5 n dw aC cT w.oA.m;unfold bN.oA;split;exact h.hj bC;split<;>exact h.hj bC;split;rename_i x ak _;have:k5 n dw aC cT (w.uG x).m:=by show k5 n dw aC cT (w.s.as w.m w.cK (·.fz (w.s.part w.s.dc) w.wr x)).1;rw[h.di,h.part];exact bC.as h.j fun m hm aM=>hm.fz h.oC aM
 show k5 n dw aC cT (w.fill x ak).m
 grind[bN.fill]
 split;exact bC;rename_i bI q _;show k5 n dw aC cT (({w with q:=q}:bN).jJ bI).m
 simp_all[af8]
structure aBF (aC:Int) (aI:dm) (w:bN):Prop where
 cJ:∃L:List (List Int),L.length=w.wr/\(∀(y:Nat) (x:List Int),L[y]?=some x->w.m.eT (1+aC) y=(x,0))/\ju aI w.dv (L++w.gi).flatten
structure oK (aC:Int) (aI:dm) (w:bN):Prop where
 a:w.dL≠0->w.aI=aI/\en aI
 b:w.dL<=1->w.wr=0/\w.dv=0/\w.gi=[]
 c:2<=w.dL->aBF aC aI w
 d:3<=w.dL->w.gi=[]/\aI.bo.length<=w.dv
 e:w.dL=4->w.aI.cU<=(w.m.all (1+aC)).length/\hr ((w.m.all (1+aC)).take w.aI.cU.toNat)=w.aI.cD/\w.m.d.done=[]
theorem aBG{j6 y:Int}:(w.oz).m.eT j6 y=w.m.eT j6 y:=by
 show(w.s.as w.m w.cK (·.hj)).1.eT j6 y=_;unfold fM.as;split;exact HC (m:=w.m) (iw:={({w.m with eo:=w.s.dw}:bn).hj.1 with eo:=w.m.eo}) rfl fun h2=>ag3
 rfl
theorem aBH(h:sX dw aC w)(he:(w.uG x).bA=0):(w.uG x).m.eT (1+aC) w.wr=(x,0)/\∀z:Nat,z≠w.wr->(w.uG x).m.eT (1+aC) z=w.m.eT (1+aC) z:=by
 unfold bN.uG bN.put at he⊢;rw[h.di,h.part]at he⊢;obtain⟨bb,bt⟩:=agR he;have pI:(w.s.as w.m w.cK (·.fz (1+aC) w.wr x)).1.hq=w.m.hq:=by grind[Tl]
 have bS:(w.m.fH (1+aC) (w.wr:Int)).2=0:=aBi (m:={w.m with eo:=w.s.dw}) bt;have aO:(w.s.as w.m w.cK (·.fz (1+aC) w.wr x)).1.d=(w.m.d.fz (w.m.fH (1+aC) w.wr).1 x).1/\(w.m.d.fz (w.m.fH (1+aC) w.wr).1 x).2=0:=by rw[bb];unfold bn.fz at bt⊢;rw[if_neg (by rw[show(({w.m with eo:=w.s.dw}:bn).fH (1+aC) (w.wr:Int)).2=0 from bS];simp)]at bt⊢;exact⟨HB.2,bt⟩
 constructor;show(w.s.as w.m w.cK (·.fz (1+aC) w.wr x)).1.eT (1+aC) w.wr=_;unfold bn.eT;rw[agP pI,if_neg (by omega),aO.1];exact aBD aO.2;intro z dQ;refine HC (m:=w.m) pI fun h2=>?_
 show((w.s.as w.m w.cK (·.fz (1+aC) w.wr x)).1.d.eT _)=_
 grind[ag2,aBh]
theorem oK.step(h:sX dw aC w)(ag:oK aC aI w)(cf:∀x∈w.q,agZ aI x)(he:w.step.2.bA=0):oK aC aI w.step.2:=by
 by_cases h1:w.bA≠0\/w.dL=4
 ·simp_all[bN.step]
 by_cases h2:w.dL=1
 ·have e:w.step=(true,w.pe):=by simp_all[bN.step]
  rw[e];obtain⟨b1,b2,hB⟩:=ag.b (by omega);show oK aC aI w.pe;unfold bN.pe;split
  ·rename_i y _;have aw:(w.afl y).dL=1:=h2;exact⟨fun _=>ag.a (by omega),fun _=>⟨b1,b2,hB⟩,fun h=>by omega,fun h=>by omega,fun h=>by omega⟩
  ·refine⟨fun _=>ag.a (by omega),fun h=>absurd h (by simp_all),fun _=>⟨[],b1.symm,by simp,?_⟩,fun h=>absurd h (by simp_all),fun h=>absurd h (by simp_all)⟩;show ju aI w.dv ([]++w.gi).flatten;rw[b2,hB];exact⟨fun _=>by simp,fun i aq=>absurd aq (by omega)⟩
 by_cases aB:w.dL=3
 ·have e:w.step=(true,w.oA):=by simp_all[bN.step]
  rw[e]at he⊢;obtain⟨⟨L,lU,ns,kI⟩⟩:=ag.c (by omega);have aO:=ag.d (by omega);have bp:=ag.a (by omega);have he:w.oA.bA=0:=he;show oK aC aI w.oA;unfold bN.oA at he⊢;split at he
  ·omega
  rename_i cj;rw[if_neg cj];split at he
  ·cases he
  rename_i dh;rw[if_neg dh];rw[not_or,h.cP,h.part]at dh;have Aa:w.oz.bA=0:=Classical.not_not.1 cj;refine⟨fun _=>bp,fun h=>absurd h (by simp_all),fun _=>⟨L,lU,fun y x a8=>?_,kI⟩,fun _=>aO,fun _=>⟨?_,Classical.not_not.1 dh.2,?_⟩⟩
  ·show w.oz.m.eT (1+aC) y=_
   simp_all[aBG]
  ·show w.aI.cU<=(w.oz.m.all (1+aC)).length;omega
  ·show w.oz.m.d.done=[];unfold bN.oz bN.put at Aa⊢;obtain⟨bb,bt⟩:=agR Aa;rw[show({w with m:=(w.s.as w.m w.cK (·.hj)).1,bA:=(w.s.as w.m w.cK (·.hj)).2}:bN).m=(w.s.as w.m w.cK (·.hj)).1 from rfl,bb];have bt:w.m.d.hj.2=0:=bt;show w.m.d.hj.1.done=[];unfold bG.hj at bt⊢
   grind
 by_cases ql:w.gi=[]
 ·cases ag7:w.q with
  | nil=>simp_all[bN.step]
  | cons bI q=>
   rw[ag7]at cf;have rP:=cf bI mem_cons_self;rw[aBd h1 h2 aB ql ag7]at he⊢;have he:(({w with q:=q}:bN).jJ bI).bA=0:=he;show oK aC aI (({w with q:=q}:bN).jJ bI);by_cases aN:w.dL=0
   ·obtain⟨b1,b2,hB⟩:=ag.b (by omega);unfold bN.jJ at he⊢;rw[if_pos aN]at he⊢;cases bI with
    | rk _=>cases he
    | body _ _=>cases he
    | ed=>cases he
    | nn g aBI=>
     simp only at he⊢;have rP:aBI=aI:=rP;subst rP;unfold bN.yw at he⊢;split at he
     ·cases he
     rename_i U;split at he
     ·cases he
     rename_i dQ;rw[if_neg U,if_neg dQ];exact⟨fun _=>⟨rfl,Classical.not_not.1 U⟩,fun _=>⟨b1,b2,hB⟩,fun h=>absurd h (by simp_all),fun h=>absurd h (by simp_all),fun h=>absurd h (by simp_all)⟩
   ·have zY:w.dL=2\/5<=w.dL:=by omega
    obtain⟨c1,c2⟩:=ag.a aN;obtain⟨⟨L,lU,ns,kI⟩⟩:=ag.c (by omega);unfold bN.jJ at he⊢;rw[if_neg aN]at he⊢;cases bI with
    | rk _=>cases he
    | nn _ _=>cases he
    | body a bs=>
     simp only at he⊢;unfold bN.body at he⊢;split at he
     ·cases he
     rename_i al;rw[if_neg al];rw[not_or,not_or]at al;have bp:a=(w.dv:Int):=Classical.not_not.1 al.1;obtain⟨i,i1,jR,qm⟩:=rP;have aq:i=w.dv:=by omega
     subst aq;have EI:=al.2.1;rw[bp]at EI;rw[show({w with q:=q}:bN).aI=aI from c1]at EI;rcases zY with zY|zY
     ·refine⟨fun _=>⟨c1,c2⟩,fun h=>absurd h (by simp_all),fun _=>⟨L,lU,ns,?_⟩,fun h=>absurd h (by simp_all),fun h=>absurd h (by simp_all)⟩;show ju aI (w.dv+1) (L++lM bs).flatten;rw[ql,append_nil]at kI;rw[flatten_append];exact kI.body c2 jR EI qm
     ·exact absurd (agS EI) (by have:=(ag.d (by omega)).2;omega)
    | ed=>
     simp only at he⊢;split at he
     ·cases he
     rename_i al;rw[if_neg al];rw[show({w with q:=q}:bN).aI=aI from c1]at al;refine⟨fun _=>⟨c1,c2⟩,fun h=>absurd h (by simp_all),fun _=>⟨L,lU,ns,kI⟩,fun _=>⟨ql,?_⟩,fun h=>absurd h (by simp_all)⟩
     simp_all
 ·obtain⟨x,ak,al⟩:=exists_cons_of_ne_nil ql;rw[aBc h1 h2 aB al]at he⊢;have zY:w.dL=2:=by
   by_cases aN:w.dL<=1
   ·exact absurd (ag.b aN).2.2 ql
   ·by_cases cj:3<=w.dL
    ·exact absurd (ag.d cj).1 ql
    ·omega
  have he:(w.fill x ak).bA=0:=he;obtain⟨⟨L,lU,ns,kI⟩⟩:=ag.c (by omega);show oK aC aI (w.fill x ak);unfold bN.fill at he⊢;split
  ·rename_i hf;obtain⟨gM,gN⟩:=aBH h hf;refine⟨fun _=>ag.a (by omega),fun h=>absurd h (by show¬w.dL<=1;omega),fun _=>⟨L++[x],by simp[lU],fun y z a8=>?_,?_⟩,fun h=>absurd h (by show¬ 3<=w.dL;omega),fun h=>absurd h (by show¬w.dL=4;omega)⟩
   ·show(w.uG x).m.eT (1+aC) y=_;by_cases hyw:y=w.wr
    ·simp_all
    grind
   ·show ju aI w.dv ((L++[x])++ak).flatten
    simp_all
  simp_all
end V
end J
namespace J
open Go Go.Ab
namespace V
variable{aI:dm}{n i:Nat}{m iw cT:bn}{aC dw z eo e a:Int}{off:ir}{bj:List iY}{cz:List UInt8}{key:List Int}{t:kJ}{p:dG}{AL dK:Bool}
structure ag8 (off:ir) (bj:List iY) (cz:List UInt8) (key:List Int) (t:kJ) (dw aC:Int) (p:dG):Prop where
 k:Ad off bj cz key t p.l p.c p.bI
 h:sX dw aC p.w
 w:oK aC p.c.aI p.w
 n:p.c.aw=none->p.w.dL=0
structure ag9 (off:ir) (bj:List iY) (cz:List UInt8) (key:List Int) (t:kJ) (aC:Int) (p:dG):Prop where
 g:Ma off bj cz key t p.c.aI
 aw:p.c.aw≠none
 w:oK aC p.c.aI p.w
 s:p.w.dL=4
structure jY (off:ir) (bj:List iY) (cz:List UInt8) (key:List Int) (t:kJ) (n:Nat) (dw aC:Int) (cT:bn) (p:dG):Prop where
 rr:k5 n dw aC cT p.w.m
 EK:p.st=1->ag8 off bj cz key t dw aC p
 dK:p.st=2->ag9 off bj cz key t aC p
theorem jY.pF{st iT:Int}(bC:k5 n dw aC cT p.w.m)(aw:st=3\/st=4):jY off bj cz key t n dw aC cT (p.pF st iT):=
 ⟨bC,fun h=>(by have h:st=1:=h;omega),fun h=>(by have h:st=2:=h;omega)⟩
theorem jY.lN(h1:p.st=1)(bC:k5 n dw aC cT p.w.m)(aE:e=0->dK=false->ag8 off bj cz key t dw aC p)(aO:e=0->dK=true->ag9 off bj cz key t aC p):jY off bj cz key t n dw aC cT (p.lN i AL e dK).2:=by
 unfold dG.lN;simp only;split
 grind[jY.pF]
 rename_i aN;have aN:e=0:=Classical.not_not.1 aN;split;rename_i h2;obtain⟨b7,ca,g3,g4⟩:=aO aN h2;refine⟨by split<;>exact bC,fun h=>(by have h:(2:Int)=1:=h;omega),fun _=>?_⟩;split<;>exact⟨b7,ca,⟨g3.a,g3.b,fun h=>⟨(g3.c h).cJ⟩,g3.d,g3.e⟩,g4⟩;rename_i h2;obtain⟨b7,ca,g3,g4⟩:=aE aN (by simp_all);refine⟨by grind,fun _=>?_,fun h=>?_⟩;split<;>exact⟨b7,ca,g3,g4⟩
 grind
theorem oK.vR{aBJ:dm}{w:bN}(h:oK aC aI w)(aN:w.dL=0):oK aC aBJ w:=⟨fun a6=>absurd aN a6,h.b,fun a6=>by omega,fun a6=>by omega,fun a6=>by omega⟩
theorem oK.q{w:bN}{q:List j5}(h:oK aC aI w):oK aC aI {w with q:=q}:=⟨h.a,h.b,fun a6=>⟨(h.c a6).cJ⟩,h.d,h.e⟩
theorem jY.step(h:jY off bj cz key t n dw aC cT p):jY off bj cz key t n dw aC cT (p.step eo).2:=by
 unfold dG.step;split;exact h;rename_i aR;have h1:p.st=1:=by omega
 obtain⟨k,hh,aM,aN⟩:=h.EK h1;split;unfold dG.Hh;split;exact jY.pF h.rr (.inl rfl);exact h;split;rw[af4];generalize U:mg p.c.bU p.l p.c.jA p.c.eS p.bI=r;obtain⟨b,aF,bJ,eS,zZ⟩:=r;have hm:p.z7={p with l:=aF,c:={p.c with jA:=bJ,eS:=eS},bI:=zZ}:=by simp_all[dG.z7]
 rw[hm];exact jY.lN h1 h.rr (fun _ _=>⟨k.aBz U,hh,aM,aN⟩) fun _ h=>by cases h
 split;rw[af5];refine jY.lN (p:=p.LU) h1 h.rr (fun he _=>?_) fun _ h=>by cases h
 have he:p.c.step.2.bA=0:=he;obtain⟨ep,hl⟩:=k.looks he;by_cases aw:p.c.aw=none;exact⟨ep,hh,aM.vR (aN aw),fun _=>aN aw⟩;obtain⟨bb,bt⟩:=hl aw;refine⟨ep,hh,?_,fun h=>absurd h bt⟩;show oK aC p.c.step.2.aI p.w
 simp_all
 split;rw[af6];have wk:sX dw aC ({p.w with q:=p.c.iS}:bN):=⟨hh.tQ,hh.j,hh.di,hh.cP,hh.fS,hh.cC,hh.oC⟩;have aBK:k5 n dw aC cT p.yC.w.m:=wk.rr h.rr;have aha:p.rw.2.bA=0->oK aC p.c.aI p.rw.2:=fun he=>oK.step wk aM.q (fun x al=>k.iS x al) he
 have cf:∀x∈p.rw.2.q,x∈p.c.iS:=by
  intro x al;have al:x∈({p.w with q:=p.c.iS}:bN).step.2.q:=al;unfold bN.step at al;split at al;exact al;split at al;have al:x∈({p.w with q:=p.c.iS}:bN).pe.q:=al;unfold bN.pe at al;split at al<;>exact al;split at al;have al:x∈({p.w with q:=p.c.iS}:bN).oA.q:=al;unfold bN.oA at al;split at al;exact al;split at al<;>exact al;split at al;rename_i y aX _;have al:x∈(({p.w with q:=p.c.iS}:bN).fill y aX).q:=al;unfold bN.fill at al;split at al<;>exact al
  grind[aBe]
 have IE:Ad off bj cz key t p.yC.l p.yC.c p.yC.bI:=⟨k.dd,k.HY,k.k7,k.bJ,k.eE,k.EY,fun h=>(by
  have:=k.jZ h;cases aE:p.rw.2.q with
  | nil=>exact aE
  | cons a b=>grind[mem_cons_self]),k.lj,fun x al=>k.iS x (cf x al)⟩
 have ey:p.c.aw=none->p.rw.2.dL=0:=by
  intro h;have ic:=aN h;have bb:=k.jZ h;have bt:=(aM.b (by omega)).2.2;have:p.rw=(false,({p.w with q:=p.c.iS}:bN)):=by
   show({p.w with q:=p.c.iS}:bN).step=_
   simp_all[bN.step]
  simp_all
 refine jY.lN (p:=p.yC) h1 aBK (fun he _=>?_) fun he aO=>?_
 exact⟨IE,wk.step,aha he,fun h=>ey h⟩;have bk:p.rw.2.dL=4:=of_decide_eq_true aO;have aw:p.c.aw≠none:=fun h=>by simp_all
 exact⟨k.lj aw,aw,aha he,bk⟩;exact h
theorem jY.z1(h:jY off bj cz key t n dw aC cT p):jY off bj cz key t n dw aC cT (p.z1 a):=by unfold dG.z1;split;exact⟨h.rr,fun h1=>⟨(h.EK h1).k,(h.EK h1).h,(h.EK h1).w,(h.EK h1).n⟩,fun h1=>⟨(h.dK h1).g,(h.dK h1).aw,(h.dK h1).w,(h.dK h1).s⟩⟩;exact h
theorem jY.B7(h:jY off bj cz key t n dw aC cT p):jY off bj cz key t n dw aC cT p.B7.2:=by unfold dG.B7;split;exact h;exact jY.pF h.rr (.inr rfl)
theorem jY.yf(h:jY off bj cz key t n dw aC cT p)(aw:iw.hq=p.w.m.hq)(U:∀a z:Int,iw.eT a z=p.w.m.eT a z)(aO:iw.d.done=p.w.m.d.done)(bC:∀o∈iw.bf,o∈p.w.m.bf):jY off bj cz key t n dw aC cT {p with w:={p.w with m:=iw}}:=by
 have bp:iw.all (1+aC)=p.w.m.all (1+aC):=by grind[bn.all,bn.q3,agO]
 have ag:∀ {aI},oK aC aI p.w->oK aC aI {p.w with m:=iw}:=by
  intro aI ag;refine⟨ag.a,ag.b,fun h=>?_,ag.d,fun h=>?_⟩
  ·obtain⟨⟨L,lU,ns,kI⟩⟩:=ag.c h;exact⟨L,lU,fun y x a8=>(U _ _).trans (ns y x a8),kI⟩
  ·obtain⟨bb,bt,dZ⟩:=ag.e h
   simp_all
 refine⟨⟨aw.trans h.rr.ct,fun z=>(U _ z).trans (h.rr.hF z),fun o Fw=>h.rr.bf o (bC o Fw)⟩,fun h1=>?_,fun h1=>?_⟩
 ·obtain⟨k,hh,aM,aN⟩:=h.EK h1;exact⟨k,⟨hh.tQ,hh.j,hh.di,hh.cP,hh.fS,hh.cC,hh.oC⟩,ag aM,aN⟩
 ·obtain⟨b7,ca,g3,g4⟩:=h.dK h1;exact⟨b7,ca,ag g3,g4⟩
theorem jY.zC(h:jY off bj cz key t n dw aC cT p):jY off bj cz key t n dw aC cT {p with w:={p.w with m:={p.w.m with d:=p.w.m.d.zC a}}}:=
 h.yf rfl (fun _ _=>rfl) rfl fun _ h=>h
theorem jY.bf(h:jY off bj cz key t n dw aC cT p):jY off bj cz key t n dw aC cT {p with w:={p.w with m:={p.w.m with bf:=[]}}}:=
 h.yf rfl (fun _ _=>rfl) rfl fun _ h=>by cases h
theorem jY.l0(h:jY off bj cz key t n dw aC cT p)(aN:cT.hq=yG n):p.w.m.all (1+(1-aC))=cT.all (1+(1-aC)):=by unfold bn.all bn.q3;rw[agO (h.rr.ct.trans aN.symm)];simp only[h.rr.hF]
structure aBL (off:ir) (bj:List iY) (cz:List UInt8) (key:List Int) (t:kJ) (aC:Int) (p:dG):Prop where
 g:Ma off bj cz key t p.c.aI
 aw:p.c.aw.isSome=true
 r:en p.c.aI
 z:p.c.aI.cU<=(p.w.m.all (1+aC)).length
 cD:hr ((p.w.m.all (1+aC)).take p.c.aI.cU.toNat)=p.c.aI.cD
 dK:p.w.m.d.done=[]
 bx:∀i,i<p.c.aI.bo.length->hr (((p.w.m.all (1+aC)).drop (gm p.c.aI i).1.toNat).take (gm p.c.aI i).2.toNat)=p.c.aI.bo.getD i []
theorem aBM{m:bn}{j6:Int}{L:List (List Int)}(h:∀(y:Nat) (x:List Int),L[y]?=some x->m.eT j6 y=(x,0)):m.q3 j6 L.length=L.flatten:=by
 unfold bn.q3;rw[List.flatMap_def]
 congr 1
 refine ext_getElem (by simp) fun i h1 h2=>?_
 simp_all
theorem jY.ed(h:jY off bj cz key t n dw aC cT p)(an:k0 aC)(h2:p.st=2):aBL off bj cz key t aC p:=by
 obtain⟨b7,ca,g3,g4⟩:=h.dK h2;obtain⟨c1,c2⟩:=g3.a (by omega);obtain⟨bb,bt,dZ⟩:=g3.e g4;obtain⟨d1,d2⟩:=g3.d (by omega);obtain⟨⟨L,lU,ns,kI⟩⟩:=g3.c (by omega);rw[c1]at bb bt;rw[d1,append_nil]at kI;refine⟨b7,by cases hh:p.c.aw with|none=>simp_all|some _=>rfl,c2,bb,bt,dZ,fun i aq=>?_⟩;have hL:L.length<=n:=by
  rcases Nat.lt_or_ge n L.length with aE|aE
  exfalso;have:=ns n _ (List.getElem?_eq_getElem aE);unfold bn.eT at this;rw[Ts h.rr.ct an]at this
  grind
  omega
 obtain⟨r,rfl⟩:∃r,n=L.length+r:=⟨n-L.length,by omega⟩;have hall:∃R,p.w.m.all (1+aC)=L.flatten++R:=by
  unfold bn.all;rw[ag4 h.rr.ct an];rw[<- aBM ns]
  simp_all[bn.q3,range_add]
 obtain⟨R,aQ⟩:=hall;obtain⟨eP,dR⟩:=kI.c i (by omega);have pI:(gm p.c.aI i).1.toNat=i*p.c.aI.bx.toNat:=by
  unfold gm;rw[if_neg (by simp_all)];have:=c2.2.2.2.2.2.1
  grind
 grind
theorem aBN{dp:ei}(aR:1<=dp.bR.iZ)(an:k0 dp.bR.aC):jY (w0 dp.off) dp.bj dp.bR.cz dp.kg.key ⟨dp.kg.cE,dp.bR.ck,64*((dp.k4.toNat:Nat):Int)⟩ dp.k4.toNat dp.bR.iZ dp.bR.aC (pY dp) (r4 dp):=by
 have e:(mh.jI dp.bR.iZ dp.bR.aC).2.2={mh with dw:=dp.bR.iZ,dc:=dp.bR.aC,ng:=mh.gz+1,gz:=mh.gz+1}:=by unfold fM.jI;rw[if_neg (by omega),if_neg (by show¬((0:Nat)≠0);decide)]
 have pI:(pY dp).hq=yG dp.k4.toNat:=SU dp;unfold r4;rw[e];have hh:sX dp.bR.iZ dp.bR.aC (SS dp.kg dp.bR {mh with dw:=dp.bR.iZ,dc:=dp.bR.aC,ng:=mh.gz+1,gz:=mh.gz+1} (pY dp) ⟨w0 dp.off,dp.bj,0⟩).w:=⟨⟨by show(1:Nat)≠0;decide,rfl⟩,rfl,rfl,rfl,rfl,rfl,an⟩;refine⟨⟨pI,fun z=>rfl,fun o bC=>(by cases bC)⟩,fun _=>⟨⟨rfl,fun f hf=>hf,rfl,fun q cf=>(by cases cf),rfl,?_,fun _=>rfl,fun h=>absurd rfl h,fun x al=>(by cases al)⟩,hh,⟨fun h=>absurd rfl h,fun _=>⟨rfl,rfl,rfl⟩,fun h=>absurd h (by show¬ 2<=0;omega),fun h=>absurd h (by show¬ 3<=0;omega),fun h=>absurd h (by show¬ 0=4;omega)⟩,fun _=>rfl⟩,fun h=>(by have h:(1:Int)=2:=h;omega)⟩;have aBO:=hh.part;show(⟨dp.kg.cE,dp.bR.ck,64*((pY dp).size (fM.part {mh with dw:=dp.bR.iZ,dc:=dp.bR.aC,ng:=mh.gz+1,gz:=mh.gz+1} dp.bR.aC):Int)⟩:kJ)=_;rw[show fM.part {mh with dw:=dp.bR.iZ,dc:=dp.bR.aC,ng:=mh.gz+1,gz:=mh.gz+1} dp.bR.aC=1+dp.bR.aC from aBO,ag4 pI an]
end V
end J
namespace J
open Go Go.Ab
variable[cr:bW]
variable{H:ar}{R ae:List (Nat×ay)}{ab:VH}{i:Nat}{ao:List Value}{v:Value}{ak:List Int}{a ef:Int}{cg:ir}{cz:List UInt8}
theorem ahb(hO:aj H ae)(hv:b3 ae v ak)(aE:ak.length<=1000000)(hm:ef<=1000000)(ag:yc ae ab (iI ak a ef)):az P 158 [v,int a,int ef] H ab:=by
 apply aqI;unfold aaw;refine gj hO (yd _) ?_;intro q H hO;have ahc:e8 (aC q 0 0 3) [] []:=.inr ⟨q,.inr ⟨rfl,rfl⟩,rfl,Nat.le_refl _,rfl⟩;have hO:aj H (ae++bB (aC q 0 0 3) []):=hO;refine ah ez (bz (fun h=>?_) (fun h=>?_))
 ·refine ag H _ _ hO ?_;unfold iI;rw[if_pos (.inl h)];exact ahc
 obtain⟨s,rfl⟩:=Int.eq_ofNat_of_zero_le (show 0<=a by omega);refine aqH (fun k aF aa=>∃(y:Nat) (aH:Value) (ao:List Value),y<=ak.length-s/\(y=0\/(y:Int)<=ef)/\k=ak.length-s-y/\aF=[v,int ef,bq,aH,int ((s+y:Nat):Int)]/\aj aa (ae++bB aH ao)/\e8 aH ((ak.drop s).take y) ao) _ _ ?_ (ak.length-s) _ _ ⟨0,aC q 0 0 3,[],by omega,.inl rfl,rfl,rfl,hO,by rw[take_zero];exact ahc⟩;rintro k aF H ⟨y,aH,ao,a8,aD8,rfl,rfl,hO,hJ⟩;unfold aav
 try simp only[cu,cv]
 have hlen:((ak.drop s).take y).length=y:=by simp_all
 have done:¬((((s+y:Nat):Int)<ak.length)/\(y:Int)<ef)->ab aH H:=by
  intro aO;refine ag H aH ao hO ?_;unfold iI;by_cases aD:((s:Nat):Int)<0\/(ak.length:Int)<=(s:Nat)\/ef<1
  ·rw[if_pos (by exact aD)];have:y=0:=by omega
   subst this;rw[take_zero]at hJ;exact hJ
  ·rw[if_neg (by exact aD)];obtain⟨m,rfl⟩:=Int.eq_ofNat_of_zero_le (show 0<=ef by omega);have e:((ak.drop s).take y)=(ak.drop s).take m:=by grind[take_of_length_le]
   show e8 aH ((ak.drop s).take m) ao;rw[<- e];exact hJ
 refine e6 (fun aF aa=>aF=[v,int ef,bq,aH,int ((s+y:Nat):Int)]/\aa=H/\s+y<ak.length/\(y:Int)<ef) ?_ ?_
 ·refine bV hv.bP (ah ez (bz (fun h1=>?_) (fun h1=>?_)))
  ·refine bV hJ.bP ?_;rw[hlen];refine ah ez (ah (hT h1) (bz (fun h2=>?_) (fun h2=>?_)))
   ·exact⟨rfl,rfl,by omega,h2⟩
   ·exact done fun h=>h2 h.2
  ·exact ah (ho h1) (et rfl (done fun h=>h1 h.1))
 rintro aF aa ⟨rfl,rfl,h1,h2⟩
 try simp only[cu,cv]
 obtain⟨p,o,c,j,b,rfl,bh,aD⟩:=agk hv h1;refine ah (h4 (by omega) (by omega)) (aP hO j (aK bh) aD (gj hO (Gr _ _ _) ?_));intro r H hO;refine wA (aX:=[ak[s+y]]) hO hJ (by grind) rfl (.inr rfl) ?_;intro H dD kR hO jG;refine ah (v:=int ((s+(y+1):Nat):Int)) (by grind[jg]) (⟨_,by omega,y+1,dD,kR,by omega,.inr (by omega),rfl,rfl,hO,?_⟩);have e:(ak.drop s).take (y+1)=(ak.drop s).take y++[ak[s+y]]:=by grind[Hp]
 rw[e];exact jG
def xa:ir->List UInt8->Nat->Int
 | [],_,_=>-1
 | o::r,k,i=>if hs o.1=k then(i:Int)else xa r k (i+1)
theorem aBP{cg:ir}{k:List UInt8}:∀ {y:Nat} (h:y<cg.length),xa (cg.drop y) k y=if hs cg[y].1=k then(y:Int)else xa (cg.drop (y+1)) k (y+1):=by intro y h;rw[drop_eq_getElem_cons h];rfl
theorem aBQ(a b:List UInt8):(au P .eql 9 false).f (bl a) (bl b)=some (.bool (decide (a=b))):=by
 rw[QZ]
 grind
theorem ahd{e2:Nat}{pD gM:Value}(aE:∀o∈cg,o.1.length<=1000)(aR:cg.length<=1000)(CL:cz.length<=1000000)(bC:nX ae v cg)(hO:aj H ae)(aq:ae[i]?=some (e2,⟨[v,pD,gM],true⟩))(ag:∀aa,aj aa ae->ab (int (xa cg (hs cz) 0)) aa):az P 99 [ai e2 0,bl cz] H ab:=by
 apply apU;unfold Zu;refine aU (aP hO i aq (v:=v) rfl (bV bC.bP (apT (fun k aF aa=>∃y:Nat,y<=cg.length/\k=cg.length-y/\aF=[bl cz,int 0,v,int cg.length,int y]/\aj aa ae/\xa (cg.drop y) (hs cz) y=xa cg (hs cz) 0) _ _ ?_ cg.length _ _ ⟨0,zero_le _,rfl,rfl,hO,rfl⟩)));rintro k aF H ⟨y,a8,rfl,rfl,hO,he⟩;unfold Zt
 try simp only[cu,cv]
 refine ah ez (bz (fun h=>?_) (fun h=>?_));have fU:y<cg.length:=by omega
 obtain⟨p,c,j,zW,ao,hx,rfl,bh,oV,oH,nj⟩:=bC.get fU;have b7:=aE _ (getElem_mem fU);rw[aBP fU]at he;refine ah (h4 (by omega) (by omega)) ?_;rw[Int.toNat_natCast];refine hG (ao:=[bl cg[y].1,hx]) hO j bh oV rfl (by omega) ?_;rw[LV];refine c4 hO ?_;intro e9 H hO;refine e7 hO (_+0) (aA rfl) rfl rfl (by rw[all_cons,all_cons,LW oH];rfl) ?_;intro H hO
 replace hO:=hO.cb
 refine ah b0 (aP hO (_+0) (aA rfl) (v:=bl cg[y].1) rfl (Lo (by omega) hO ?_));intro H hO;refine Lo CL hO ?_;intro H hO;refine ah (aBQ _ _) (bz (fun h2=>?_) (fun h2=>?_));rw[if_pos h2]at he;show ab (int y) H;rw[he];exact ag H hO.left;rw[if_neg h2]at he;exact ah (v:=int ((y+1:Nat):Int)) (by grind[jg]) (⟨_,by omega,y+1,fU,rfl,rfl,hO.left,he⟩);have e:y=cg.length:=by omega
 subst e;rw[List.drop_length]at he;have aN:=ag H hO;rw[<- he]at aN;exact aN
theorem Tt:∀(R:ir) (k:List UInt8) (y:Nat),(nC (R.map fun o=>(hs o.1,o.2)) k=none/\xa R k y=-1)\/∃(i:Nat) (h:i<R.length),xa R k y=((y+i:Nat):Int)/\nC (R.map fun o=>(hs o.1,o.2)) k=some R[i].2
 | [],k,y=>.inl ⟨rfl,rfl⟩
 | o::r,k,y=>by
  unfold xa;rw[map_cons];unfold nC;simp only;by_cases h:hs o.1=k;rw[if_pos h,if_pos h];exact .inr ⟨0,by simp,rfl,rfl⟩;rw[if_neg h,if_neg h];rcases Tt r k (y+1)with⟨h1,h2⟩|⟨i,aq,h1,h2⟩
  simp_all
  refine .inr ⟨i+1,by grind,by omega,?_⟩
  grind
end J
namespace J
open Go Go.Ab
variable[cr:bW]
variable{H:ar}{S F X R ae:List (Nat×ay)}{ab:VH}{i n e2:Nat}{ao:List Value}{v fv ov:Value}{a:Int}{cg hI:ir}{f:iY}{bj:List iY}
abbrev uN(R:ir):ir:=R.map fun o=>(hs o.1,o.2)
theorem aBR(a:Option Addr)(n c:Nat):(c9 P 118).f [(1,.slice a n c)]=some (agg [bq,.slice a n c,int 0]):=by rfl
theorem aBS(l:List UInt8)(a:Option Addr)(n c:Nat)(H:ar):(eg P 23 1).f [(0,agg [bl l,.slice a n c])] H=some (aC H.next 0 1 5,H.push [bl l,.slice a n c]):=by rfl
theorem ahe{v:Value}{n:Nat}{ao:List Value}(h:il 2 v n ao):o1 2 (ae++bB v ao) v n ao:=by
 rcases h with⟨h1,h2,aB⟩|⟨p,h|h,aE⟩
 exact .inl ⟨h1,h2,aB⟩;subst h;exact .inr ⟨p,_,ae.length+0,true,rfl,aA rfl,aE⟩;subst h;exact .inr ⟨p,_,ae.length+0,true,rfl,aA rfl,aE⟩
theorem ahf{α:Type}{Q:α->List Value->Prop}{x:α}{dg:List Value}:∀ {l:List α} {aJ:List (List Value)},Al Q l aJ->Q x dg->Al Q (l++[x]) (aJ++[dg])
 | [],_,.nil,h=>.cons h .nil
 | _::_,_,.cons h1 h2,h=>.cons h1 (ahf h2 h)
theorem aBT(aE:∀o∈cg,o.1.length<=1000/\o.2.length<=10000)(aR:cg.length<=1000)(bC:nX S ov cg)(hf:gZ S fv bj)(lB:bj.length<=100000)
  (hO:aj H (S++F)) (ag:∀aa e2 Tu iU hI X,nX (S++X) Tu hI->gZ (S++X) iU bj->uN hI=w0 cg->(∀o∈hI,o∈cg)->hI.length<=cg.length->aj aa (((S++X)++F)++[(e2,⟨[Tu,iU,int 0],true⟩)])->ab (ai e2 0) aa):az P 43 [ov,fv] H ab:=by
 apply ao7;unfold YD;refine gj hO (SA _) ?_;intro q H hO;rw[append_assoc]at hO;refine LK (bj:=[]) hO (.inr ⟨⟨q,0,rfl⟩,.inr ⟨q,0,7,rfl,.inr rfl,.inl rfl⟩⟩) hf (by grind) ?_;intro H iU X hO mo;rw[nil_append]at mo;obtain⟨oL,fn,oM,rfl⟩:=mo.kz;refine ah (aBR _ _ _) ?_;rw[ri];refine c4 hO ?_;intro e2 H hO;refine bV bC.bP ?_
 replace hO:aj H (((S++X)++F)++([(e2,⟨[bq,.slice oL fn oM,int 0],true⟩)]++bB bq [])):=by have:aj H ((((S++X)++F)++[(e2,⟨[bq,.slice oL fn oM,int 0],true⟩)])++[(q,⟨[],true⟩)]):=hO.e4 (gI fun p=>by grind);have:=this.left;show aj H (((S++X)++F)++([(e2,⟨[bq,.slice oL fn oM,int 0],true⟩)]++[]));rw[append_nil];exact this
 refine ao6 (fun k aF aa=>∃(y:Nat) (aH:Value) (hI:ir) (aJ:List (List Value)),y<=cg.length/\k=cg.length-y/\aF=[.pointer none,ai e2 0,ov,int cg.length,int y]/\il 2 aH hI.length aJ.flatten/\Al (uM (S++X)) hI aJ/\uN hI=(cg.take y).foldl qw []/\(∀o∈hI,o∈cg)/\hI.length<=y/\aj aa (((S++X)++F)++([(e2,⟨[aH,.slice oL fn oM,int 0],true⟩)]++bB aH aJ.flatten))) _ _ ?_ cg.length _ _ ⟨0,bq,[],[],zero_le _,rfl,rfl,.inl ⟨rfl,rfl,rfl⟩,.nil,rfl,(by simp),Nat.le_refl _,hO⟩;rintro k aF H ⟨y,aH,hI,aJ,a8,rfl,rfl,pW,kD,aQ,wh,um,hO⟩;unfold YC
 try simp only[cu,cv]
 refine ah ez (bz (fun h=>?_) (fun h=>?_));have fU:y<cg.length:=by omega
 have sS:(au P .add 3 true).f (int y) (int 1)=some (int ((y+1:Nat):Int)):=by grind[jg]
 have x3:(cg.take (y+1)).foldl qw []=qw (uN hI) cg[y]:=by grind[Hp]
 obtain⟨p,c,j,zW,ao,hx,rfl,bh,oV,oH,nj⟩:=bC.get fU;have b7:=aE _ (getElem_mem fU);refine ah (h4 (by omega) (by omega)) ?_;rw[Int.toNat_natCast];refine hG (ao:=[bl cg[y].1,hx]) hO j (aK (aK (aK bh))) oV rfl (by omega) ?_;rw[LV];refine c4 hO ?_;intro e9 H hO;refine e7 hO (_+0) (aA rfl) rfl rfl (by rw[all_cons,all_cons,LW oH];rfl) ?_;intro H hO
 replace hO:=hO.cb
 replace hO:aj H ((((S++X)++F)++([(e2,⟨[aH,.slice oL fn oM,int 0],true⟩)]++bB aH aJ.flatten))++[(e9,⟨[bl cg[y].1,hx],true⟩)]):=hO
 replace hO:aj H ((((S++X)++F)++[(e9,⟨[bl cg[y].1,hx],true⟩)])++([(e2,⟨[aH,.slice oL fn oM,int 0],true⟩)]++bB aH aJ.flatten)):=
  hO.e4 (gI fun p=>by grind)
 have fP:∀ {bX},((((S++X)++F)++[(e9,(⟨[bl cg[y].1,hx],true⟩:ay))])++bX)[((S++X)++F).length+0]?=some (e9,⟨[bl cg[y].1,hx],true⟩):=aK (aA rfl);have wH:(∀aa,aj aa ((((S++X)++F)++[(e9,⟨[bl cg[y].1,hx],true⟩)])++([(e2,⟨[aH,.slice oL fn oM,int 0],true⟩)]++bB aH aJ.flatten))->qw (uN hI) cg[y]=uN hI->∃eE,eE<cg.length-y/\∃(eG:Nat) (aH:Value) (hI:ir) (aJ:List (List Value)),eG<=cg.length/\eE=cg.length-eG/\[.pointer none,ai e2 0,aC p 0 cg.length c,int cg.length,int ((y+1:Nat):Int)]=[.pointer none,ai e2 0,aC p 0 cg.length c,int cg.length,int eG]/\il 2 aH hI.length aJ.flatten/\Al (uM (S++X)) hI aJ/\uN hI=(cg.take eG).foldl qw []/\(∀o∈hI,o∈cg)/\hI.length<=eG/\aj aa (((S++X)++F)++([(e2,⟨[aH,.slice oL fn oM,int 0],true⟩)]++bB aH aJ.flatten))):=by intro aa im he;refine⟨_,by omega,y+1,aH,hI,aJ,fU,rfl,rfl,pW,kD,by grind,wh,Nat.le_succ_of_le um,?_⟩;exact im.sub (List.Sublist.append_right (sublist_append_left _ _) _)
 refine e6 (fun aF aa=>aF=[.pointer none,ai e2 0,ai e9 0,aC p 0 cg.length c,int cg.length,int y,.bool (decide (ra cg[y].1=0/\nC (uN hI) (hs cg[y].1)=none))]/\aj aa ((((S++X)++F)++[(e9,⟨[bl cg[y].1,hx],true⟩)])++([(e2,⟨[aH,.slice oL fn oM,int 0],true⟩)]++bB aH aJ.flatten))) ?_ ?_;refine ah b0 (aP hO _ fP (v:=bl cg[y].1) rfl (adU (by omega) hO ?_));intro H hO;refine ah fl (bz (fun h1=>?_) (fun h1=>?_));refine ah b0 (aP hO _ fP (v:=bl cg[y].1) rfl ?_);have de:aj H (((((S++X)++F)++[(e9,(⟨[bl cg[y].1,hx],true⟩:ay))])++[(e2,⟨[aH,.slice oL fn oM,int 0],true⟩)])++bB aH aJ.flatten):=by rw[append_assoc];exact hO
 refine ahd (cg:=hI) (v:=aH) (fun o bC=>(aE o (wh o bC)).1) (by omega) (by omega) ⟨aJ,ahe pW,kD.ts fun _ _ h=>h.app.app.app.app⟩ de (aK (aA (k:=0) rfl)) ?_;intro H hO;rw[append_assoc]at hO;refine ah ez (ah (hT h1) (⟨?_,hO⟩));have e:decide (xa hI (hs cg[y].1) 0<0)=decide (ra cg[y].1=0/\nC (uN hI) (hs cg[y].1)=none):=by
  refine decide_eq_decide.2 ?_;rcases Tt hI (hs cg[y].1) 0 with⟨bb,bt⟩|⟨i,aq,bb,bt⟩
  grind
  grind
 rw[e];refine ah (ho h1) (⟨?_,hO⟩)
 grind
 rintro aF H ⟨rfl,hO⟩
 try simp only[cu,cv]
 refine bz (fun h2=>?_) (fun h2=>?_);have xC:((((S++X)++F)++[(e9,(⟨[bl cg[y].1,hx],true⟩:ay))])++([(e2,(⟨[aH,.slice oL fn oM,int 0],true⟩:ay))]++bB aH aJ.flatten))[(((S++X)++F)++[(e9,(⟨[bl cg[y].1,hx],true⟩:ay))]).length+0]?=some (e2,⟨[aH,.slice oL fn oM,int 0],true⟩):=aA (aK rfl);refine aU (aP hO _ xC (v:=aH) rfl (fs hO _ fP rfl (by omega) ?_));obtain⟨kX,nz,fX,rfl⟩:=oH.kz;refine gj hO (aBS _ _ _ _ _) ?_;intro sV H hO
 replace hO:aj H ((((((S++X)++F)++[(e9,(⟨[bl cg[y].1,.slice kX nz fX],true⟩:ay))])++[(e2,⟨[aH,.slice oL fn oM,int 0],true⟩)])++[(sV,⟨[bl cg[y].1,.slice kX nz fX],true⟩)])++bB aH aJ.flatten):=
  hO.e4 (gI fun p=>by simp only[countP_append,countP_cons,countP_nil];omega)
 have Wl:r7 H 2 1 (aC sV 0 1 5)=some [bl cg[y].1,.slice kX nz fX]:=by have cf:((((((S++X)++F)++[(e9,(⟨[bl cg[y].1,.slice kX nz fX],true⟩:ay))])++[(e2,(⟨[aH,.slice oL fn oM,int 0],true⟩:ay))])++[(sV,(⟨[bl cg[y].1,.slice kX nz fX],true⟩:ay))])++bB aH aJ.flatten)[((((S++X)++F)++[(e9,(⟨[bl cg[y].1,.slice kX nz fX],true⟩:ay))])++[(e2,(⟨[aH,.slice oL fn oM,int 0],true⟩:ay))]).length+0]?=some (sV,⟨[bl cg[y].1,.slice kX nz fX],true⟩):=aK (aA rfl);rw[Dq (hO.at _ cf (.inr (by simp))) (by simp)];rfl
 refine OB (m:=1) (cL:=[bl cg[y].1,.slice kX nz fX]) hO pW (by omega) rfl Wl (by omega) (by omega) (by omega) rfl rfl ?_;intro Ch H hO aBU;refine aU ?_
 replace hO:aj H (((((((S++X)++F)++[(e9,(⟨[bl cg[y].1,.slice kX nz fX],true⟩:ay))])++[(sV,⟨[bl cg[y].1,.slice kX nz fX],true⟩)])++[(Ch,⟨aJ.flatten++[bl cg[y].1,.slice kX nz fX],true⟩)]))++[(e2,⟨[aH,.slice oL fn oM,int 0],true⟩)]):=
  hO.e4 (gI fun p=>by simp only[countP_append,countP_cons,countP_nil];omega)
 refine fm hO (_+0) (aA rfl) rfl (show 0<3 by omega) (bu:=[aC Ch 0 (hI.length+1) (2*2),.slice oL fn oM,int 0]) rfl ?_;intro H hO
 replace hO:=hO.cb
 replace hO:aj H (((((((S++X)++F)++[(e9,(⟨[bl cg[y].1,.slice kX nz fX],true⟩:ay))])++[(sV,⟨[bl cg[y].1,.slice kX nz fX],true⟩)])++[(Ch,⟨aJ.flatten++[bl cg[y].1,.slice kX nz fX],true⟩)]))++[(e2,⟨[aC Ch 0 (hI.length+1) (2*2),.slice oL fn oM,int 0],true⟩)]):=hO
 refine ah sS (⟨_,by omega,y+1,aC Ch 0 (hI.length+1) (2*2),hI++[cg[y]],aJ++[[bl cg[y].1,.slice kX nz fX]],fU,rfl,rfl,?_,ahf kD ⟨_,rfl,oH.app,nj⟩,?_,?_,by rw[length_append];simp;omega,?_⟩);rw[flatten_append,length_append];simpa using aBU;rw[x3];unfold qw;rw[if_pos ⟨h2.2,h2.1⟩];simp[uN];intro o Fw;rcases mem_append.1 Fw with h|h
 grind
 grind[mem_singleton,getElem_mem]
 have e:(aJ++[[bl cg[y].1,.slice kX nz fX]]).flatten=aJ.flatten++[bl cg[y].1,.slice kX nz fX]:=by simp
 rw[e];refine(hO.e4 (bX:=(((S++X)++F)++([(e2,(⟨[aC Ch 0 (hI.length+1) (2*2),.slice oL fn oM,int 0],true⟩:ay))]++[(Ch,⟨aJ.flatten++[bl cg[y].1,.slice kX nz fX],true⟩)]))++[(e9,⟨[bl cg[y].1,.slice kX nz fX],true⟩),(sV,⟨[bl cg[y].1,.slice kX nz fX],true⟩)]) (gI fun p=>by simp only[countP_append,countP_cons,countP_nil];omega)).left;refine ah sS (wH H hO ?_);unfold qw;rw[if_neg (fun h=>h2 ⟨h.2,h.1⟩)];have e:y=cg.length:=by omega
 subst e;rw[take_length]at aQ;refine ag H e2 aH (.slice oL fn oM) hI (X++bB aH aJ.flatten) ?_ ?_ aQ wh um ?_;rw[<- append_assoc];exact⟨aJ,ahe pW,kD.ts fun _ _ h=>h.app⟩;rw[<- append_assoc];exact mo.app;rw[<- append_assoc];exact hO.e4 (gI fun p=>by grind)
end J
namespace J
open Go Go.Ab
variable[cr:bW]
variable{H:ar}{X R ae:List (Nat×ay)}{ab:VH}{i n e2:Nat}{ao:List Value}{v fv ov:Value}{ak:List Int}{a ef:Int}{hI:ir}{cz:List UInt8}{f:iY}{bj:List iY}
def HD(R:ir)(cz:List UInt8)(a ef:Int)(f:iY):List Int×Int:=match nC (uN R) (hs cz)with
 | none=>([],182)
 | some ks=>oD ks a ef f
theorem aBV(aE:∀o∈hI,o.1.length<=1000/\o.2.length<=10000)(aR:hI.length<=1000)(CL:cz.length<=1000000)(bC:nX ae ov hI)(hf:gZ ae fv [f])(mo:f.v<256)(hm:ef<=1000000)
  (hO:aj H (ae++[(e2,⟨[ov,fv,int 0],true⟩)])) (ag:∀aa aH X,b3 (ae++X) aH (HD hI cz a ef f).1->aj aa (ae++X)->ab (.tuple [aH,int (HD hI cz a ef f).2].toArray) aa):az P 92 [ai e2 0,bl cz,int a,int ef] H ab:=by
 apply apQ;unfold Zo;refine ahd (fun o bC=>(aE o bC).1) aR CL bC.app hO (aA (k:=0) rfl) ?_;intro H hO;unfold HD at ag;have gA:∀ {ak:List Int} {e:Int},(match nC (uN hI) (hs cz)with|none=>(([]:List Int),(182:Int))|some ks=>oD ks a ef f)=(ak,e)->∀aa aH X,b3 (ae++X) aH ak->aj aa (ae++X)->ab (.tuple [aH,int e].toArray) aa:=by intro ak e he aa aH X h1 h2;have:=ag aa aH X;rw[he]at this;exact this h1 h2
 rcases Tt hI (hs cz) 0 with⟨bb,bt⟩|⟨i,aq,bb,bt⟩
 rw[bt];exact ah ez (rK (by decide) (gA (by rw[bb]) H bq [] .nil (by rw[append_nil];exact hO.left)));rw[bt]at gA;rw[bb,Nat.zero_add];refine ah ez (nr (by omega) (aU (aP hO (_+0) (aA rfl) (v:=int 0) rfl (ah (v:=int 1) rfl (aU (fm hO (_+0) (aA rfl) rfl (show 2<3 by omega) (bu:=[ov,fv,int 1]) rfl ?_))))));intro H hO
 replace hO:=hO.cb
 refine ah SB ?_;rw[LL];refine c4 hO ?_;intro o H hO;refine e7 hO (_+0) (aA rfl) rfl rfl rfl ?_;intro H hO
 replace hO:=hO.cb
 replace hO:aj H ((ae++[(e2,⟨[ov,fv,int 1],true⟩)])++[(o,⟨h9 ⟨0,0,0⟩,true⟩)]):=hO
 refine e6 (fun aF aa=>∃(sT:Value) (X:List (Nat×ay)),aF=[ai e2 0,int a,int ef,int (i:Int),ai o 0]/\aj aa (((ae++X)++[(o,⟨h9 f,true⟩)])++[(e2,⟨[ov,sT,int 1],true⟩)])) ?_ ?_;have xC:∀ {bX},((ae++[(e2,(⟨[ov,fv,int 1],true⟩:ay))])++bX)[ae.length+0]?=some (e2,⟨[ov,fv,int 1],true⟩):=aK (aA rfl);obtain⟨p,q,c,j,b,rfl,bh,aD,u7,I3⟩:=hf.cons;refine aU (aP hO _ xC (v:=aC p q 1 c) rfl (bV (v:=int 1) rfl (ah kQ (rK (by decide) (aU (aP hO _ xC (v:=aC p q 1 c) rfl (ah (h4 (by omega) (by omega)) (hG (ao:=h9 f) hO j (aK (aK bh)) (by simp_all) rfl (by omega) (e7 hO (_+0) (aA rfl) rfl rfl rfl ?_)))))))));intro H hO
 replace hO:=hO.cb
 replace hO:aj H ((ae++[(e2,⟨[ov,aC p q 1 c,int 1],true⟩)])++[(o,⟨h9 f,true⟩)]):=hO
 refine gj hO (SA _) ?_;intro pj H hO;refine aU (aP hO _ (aK xC) (v:=aC p q 1 c) rfl (ah u7 ?_));rw[append_assoc,append_assoc]at hO;refine LK (bj:=[]) (gs:=[]) hO (.inr ⟨⟨pj,0,rfl⟩,.inr ⟨pj,0,7,rfl,.inr rfl,.inl rfl⟩⟩) I3 (by simp) ?_;intro H sT X hO aBW;refine aU ?_;have de:aj H ((((ae++X)++[(pj,⟨[],true⟩)])++[(o,(⟨h9 f,true⟩:ay))])++[(e2,⟨[ov,aC p q 1 c,int 1],true⟩)]):=
  hO.e4 (gI fun p=>by grind)
 refine fm de (_+0) (aA rfl) (aBW.e5) (show 1<3 by omega) (bu:=[ov,sT,int 1]) rfl ?_;intro H hO
 replace hO:=hO.cb
 refine⟨sT,X++[(pj,⟨[],true⟩)],rfl,?_⟩;rw[<- append_assoc];exact hO;rintro aF H ⟨sT,X,rfl,hO⟩
 try simp only[cu,cv]
 have N0:nX ((((ae++X)++[(o,(⟨h9 f,true⟩:ay))])++[(e2,⟨[ov,sT,int 1],true⟩)])) ov hI:=bC.app.app.app;have Ae:∀ {bX},((((ae++X)++[(o,(⟨h9 f,true⟩:ay))])++[(e2,(⟨[ov,sT,int 1],true⟩:ay))])++bX)[(ae++X).length+0]?=some (o,⟨h9 f,true⟩):=aK (aK (aA rfl));obtain⟨sQ,cF,aBX,Li,aD9,hx,Tv,aBY,aBZ,oH,nj⟩:=N0.get aq;have b7:=aE _ (getElem_mem aq);refine aU (aP hO (_+0) (aA rfl) (v:=ov) rfl ?_);rw[Tv];refine ah (h4 (by omega) (by omega)) (ah b0 ?_);refine aP hO aBX aBY (v:=hx) (by
  rw[Int.toNat_natCast];have:=congrArg (fun l:List Value=>l[1]?) aBZ
  grind) ?_
 generalize hall:hI[i].2=all at*;refine ahb hO oH (by omega) hm ?_;have BQ:cl (iI all a ef):=nj.cut;have nP:=hO;intro H dS kY hO mF;have l3:∀ {aa:ar} {bX:List (Nat×ay)},aj aa ((((ae++X)++[(o,(⟨h9 f,true⟩:ay))])++[(e2,(⟨[ov,sT,int 1],true⟩:ay))])++bX)->aj aa (ae++((X++[(o,(⟨h9 f,true⟩:ay)),(e2,⟨[ov,sT,int 1],true⟩)])++bX)):=by intro aa bX h;simp only[append_assoc,List.cons_append,nil_append]at h⊢;exact h
 have ed:∀ {aa:ar} {bX:List (Nat×ay)} {aH:Value} {ak:List Int} {e:Int},oD all a ef f=(ak,e)->b3 bX aH ak->aj aa ((((ae++X)++[(o,(⟨h9 f,true⟩:ay))])++[(e2,(⟨[ov,sT,int 1],true⟩:ay))])++bX)->ab (.tuple [aH,int e].toArray) aa:=by intro aa bX aH ak e he h1 h2;refine gA (by exact he) aa aH _ ?_ (l3 h2);rw[<- append_assoc];exact h1.app'
 refine ah b0 (aP hO _ Ae (v:=int f.jr) rfl (ah fl (bz (fun h=>?_) (fun h=>?_))));exact ed (ak:=[]) (e:=181) (by simp_all[oD]) .nil hO;refine ah fl (bz (fun h2=>?_) (fun h2=>?_));have hg:oD all a ef f=(Ew (iI all a ef) f,0):=by simp_all[oD]
 refine bV mF.bP (ah kQ ?_);by_cases al:iI all a ef=[];refine nr (by grind) ?_;unfold Ew at hg;rw[if_pos al]at hg;exact ed hg mF.hF hO;unfold Ew at hg;rw[if_neg al]at hg;have aN:0<(iI all a ef).length:=length_pos_iff.2 al;refine rK (by omega) ?_;generalize azm:iI all a ef=cx at*;obtain⟨p,c,rfl,AV,Ez⟩:=e8.ai mF al;have dy:(max f.kb 0).toNat%cx.length<cx.length:=mod_lt _ aN;refine e6 (fun aF aa=>aF=[ai o 0,aC p 0 cx.length c,int (((max f.kb 0).toNat%cx.length:Nat):Int)]/\aa=H) ?_ ?_;refine ah b0 (aP hO _ Ae (v:=int f.kb) rfl (ah kQ (bz (fun aB=>?_) (fun aB=>?_))));refine ah b0 (aP hO _ Ae (v:=int f.kb) rfl (bV mF.bP ?_));obtain⟨cm,wj⟩:=Int.eq_ofNat_of_zero_le (show 0<=f.kb by omega);have wj:f.kb=(cm:Int):=wj;rw[show(max f.kb 0).toNat=cm by omega,wj];exact ah (v:=int ((cm%cx.length:Nat):Int)) (uA aN) (⟨rfl,rfl⟩);refine⟨?_,rfl⟩;rw[show max f.kb 0=0 by omega];simp;rintro aF aa ⟨rfl,rfl⟩
 try simp only[cu,cv]
 generalize (max f.kb 0).toNat%cx.length=cm at*;refine ah (h4 (by omega) (by omega)) ?_;rw[Ez]at hO;have mm:=e8.at mF dy;have aEa:=BQ _ (getElem_mem dy);have LQ:cx[cm]=((cx[cm].toNat:Nat):Int):=by omega
 refine aP hO (_+0) (aA rfl) (v:=bQ .u8 (cx[cm].toNat)) (by show kY[0+((cm:Nat):Int).toNat*1]?=some (Value.int .u8 ((cx[cm].toNat:Nat):Int));rw[<- LQ,<- mm,Int.toNat_natCast,Nat.zero_add,Nat.mul_one]) ?_;refine ah b0 (aP hO _ Ae (v:=bQ .u8 f.v) rfl (ah (mV rfl (show _<256 by omega) (show _<256 from mo)) (ah (h4 (by omega) (by omega)) ?_)));rw[getD_eq_getElem?_getD,List.getElem?_eq_getElem dy,Option.getD_some]at hg;have aw:=e8.set mF (y:=((cx[cm].toNat ^^^ f.v:Nat):Int)) dy;have azn:cm<kY.length:=(List.getElem?_eq_some_iff.1 mm).1;refine fm hO (_+0) (aA rfl) rfl (show 0+((cm:Nat):Int).toNat*1<kY.length by omega) (bu:=kY.set cm (.int .u8 ((cx[cm].toNat ^^^ f.v:Nat):Int))) (by rw[Int.toNat_natCast,Nat.zero_add,Nat.mul_one]) ?_;intro aa im;rw[Go.Ab.cb]at im;exact ed hg aw.hF (bX:=bB (aC p 0 cx.length c) (kY.set cm (.int .u8 ((cx[cm].toNat ^^^ f.v:Nat):Int)))) (by have e:bB (aC p 0 cx.length c) (kY.set cm (.int .u8 ((cx[cm].toNat ^^^ f.v:Nat):Int)))=[(p,⟨kY.set cm (.int .u8 ((cx[cm].toNat ^^^ f.v:Nat):Int)),true⟩)]:=rfl;rw[e];exact im);refine ah fl (bz (fun aB=>?_) (fun aB=>?_));have hg:oD all a ef f=((iI all a ef).take (max 0 (min f.kb (iI all a ef).length)).toNat,0):=by simp_all[oD]
 refine ah b0 (aP hO _ Ae (v:=int f.kb) rfl (ah ez (bz (fun bk=>?_) (fun bk=>?_))));rw[show(max 0 (min f.kb ((iI all a ef).length:Int))).toNat=0 by omega,take_zero]at hg;exact ed hg .nil hO;refine ah b0 (aP hO _ Ae (v:=int f.kb) rfl (bV mF.bP (ah ez (bz (fun cj=>?_) (fun cj=>?_)))));obtain⟨t,ht⟩:=Int.eq_ofNat_of_zero_le (show 0<=f.kb by omega);have ht:f.kb=(t:Int):=ht;refine ah b0 (aP hO _ Ae (v:=int f.kb) rfl ?_);rw[ht]at cj⊢;obtain⟨dD,Oa,jR⟩:=wM mF.hF (n:=t) (by omega);refine ah Oa ?_;rw[ht,show(max 0 (min (t:Int) ((iI all a ef).length:Int))).toNat=t by omega]at hg;exact ed hg (jR _ mF.hF) hO;rw[show(max 0 (min f.kb ((iI all a ef).length:Int))).toNat=(iI all a ef).length by omega,take_length]at hg;exact ed hg mF.hF hO;refine ah fl (bz (fun bk=>?_) (fun bk=>?_));have hg:oD all a ef f=(iI all f.kb ef,0):=by simp_all[oD]
 refine ah b0 (aP hO _ Ae (v:=int f.kb) rfl (ahb hO oH.app (by omega) hm ?_));intro cB dD kR de LR;rw[append_assoc]at de;exact ed hg LR.hF.app' de;have hg:oD all a ef f=(iI all a ef,0):=by simp_all[oD]
 exact ed hg mF.hF hO
end J
namespace J
open Go Go.Ab
variable[cr:bW]
variable{H:ar}{X ae hH:List (Nat×ay)}{ab:VH}{i j n e2 fS:Nat}{ao:List Value}{v hv EL wv fv ov kv aT:Value}{an:List Int}{cz:List UInt8}{f:iY}{ck:List iY}{w:ei}{m:dm}
def EM(off:ir)(cz:List UInt8)(f:iY):List Int×Int:=match nC (w0 off) (hs cz)with
 | none=>([],182)
 | some ks=>oD ks 0 2304 f
theorem aB0{off hI:ir}(h:uN hI=w0 off):HD hI cz 0 2304 f=EM off cz f:=by grind[HD,EM]
def Ci(w:ei)(an:List Int)(f:iY):Prop:=(EM w.off w.bR.cz f).2=0/\an.length<=(EM w.off w.bR.cz f).1.length/\(EM w.off w.bR.cz f).1.take an.length=an
theorem gZ.get(h:gZ ae v ck)(aq:i<ck.length):∃(p o c j:Nat) (b:ay),v=aC p o ck.length c/\ae[j]?=some (p,b)/\(b.cells.drop (o+i*3)).take 3=h9 ck[i]:=by
 rcases h with⟨_,rfl⟩|⟨p,o,c,rfl,aD,rfl|⟨j,b,aB,bk⟩⟩
 simp at aq;simp at aq;refine⟨p,o,c,j,b,rfl,aB,?_⟩;have dh:=zz (f:=h9) (l:=ck) (n:=3) (o:=0) (m:=3) (fun s al=>rfl) aq (by omega);rw[Nat.add_zero,drop_zero]at dh;have fP:(((b.cells.drop o).take (ck.length*3)).drop (i*3)).take 3=(h9 ck[i]).take 3:=by rw[bk];exact dh
 grind[drop_take,drop_drop]
theorem aB1{b1:Value}{bL:LX}{cy:LN}(hf:w.jP)(aM:pZ hH w wv ov fv kv)(hh:b3 hH hv an)(A5:gZ hH EL ck)(wG:∀f∈ck,f.v<256)(aR:ck.length<=1000)(aq:hH[j]?=some (fS,⟨jb w wv ov fv kv,true⟩))
  (oh:∃f∈ck,Ci w an f) (hO:aj H hH) (ag:∀aa,aj aa hH->cy [.bool true] aa):
  eI P true 63 PV 16 [ai fS 0,b1,hv,EL,int ck.length,int 0] H bL cy:=by
 refine ao3 (fun k aF aa=>∃y:Nat,y<=ck.length/\k=ck.length-y/\aF=[ai fS 0,b1,hv,EL,int ck.length,int y]/\aj aa hH/\∃f∈ck.drop y,Ci w an f) _ _ ?_ ck.length _ _ ⟨0,zero_le _,rfl,rfl,hO,oh⟩;rintro k aF H ⟨y,a8,rfl,rfl,hO,oh⟩;unfold Yy
 try simp only[cu,cv]
 refine ah ez (bz (fun h=>?_) (fun h=>?_));have fU:y<ck.length:=by omega
 have sS:(au P .add 3 true).f (int y) (int 1)=some (int ((y+1:Nat):Int)):=by grind[jg]
 have next:∀aa,aj aa hH->¬Ci w an ck[y]->∃eE,eE<ck.length-y/\∃eG:Nat,eG<=ck.length/\eE=ck.length-eG/\[ai fS 0,b1,hv,EL,int ck.length,int ((y+1:Nat):Int)]=[ai fS 0,b1,hv,EL,int ck.length,int eG]/\aj aa hH/\∃f∈ck.drop eG,Ci w an f:=by
  intro aa im ey;refine⟨_,by omega,y+1,fU,rfl,rfl,im,?_⟩
  grind[drop_eq_getElem_cons]
 have mo:=wG _ (getElem_mem fU);obtain⟨CH,kS,Q4,Tw,kX,rfl,Tx,oV⟩:=A5.get fU;generalize ck[y]=f at*;refine ah (h4 (by omega) (by omega)) ?_;rw[Int.toNat_natCast];refine hG (ao:=h9 f) hO Tw Tx oV rfl (by omega) ?_;rw[LL];refine c4 hO ?_;intro e H hO;refine e7 hO (_+0) (aA rfl) rfl rfl rfl ?_;intro H hO
 replace hO:=hO.cb
 replace hO:aj H (hH++[(e,⟨h9 f,true⟩)]):=hO
 refine ah b0 (aP hO j (aK aq) (v:=ov) rfl (fs hO (_+0) (aA rfl) rfl (by omega) ?_));have nP:=hO;refine gj hO (agY _ _) ?_;intro uO H hO
 replace hO:aj H ((hH++[(e,⟨h9 f,true⟩)])++[(uO,⟨h9 f,true⟩)]):=hO
 have eh:=hO
 replace hO:aj H (((hH++[(e,⟨h9 f,true⟩)])++[(uO,⟨h9 f,true⟩)])++[]):=by rw[append_nil];exact hO
 have U:gZ ((hH++[(e,(⟨h9 f,true⟩:ay))])++[(uO,⟨h9 f,true⟩)]) (aC uO 0 1 7) [f]:=.inr ⟨uO,0,7,rfl,.inr rfl,.inr ⟨_,_,aA (k:=0) rfl,rfl⟩⟩;refine aBT (fun o bC=>by have:=hf.Fh o bC;omega) (by have:=hf.off;omega) (aM.off.app.app) U (by simp) hO ?_;intro H e2 Tu iU hI X Tv aB2 aQ wh um hO;rw[append_nil]at hO;have bh:∀ {bX Hq},((((hH++[(e,(⟨h9 f,true⟩:ay))])++[(uO,(⟨h9 f,true⟩:ay))])++bX)++Hq)[j]?=some (fS,⟨jb w wv ov fv kv,true⟩):=aK (aK (aK (aK aq)));refine ah b0 (ah b0 (aP hO j bh (v:=bl w.bR.cz) rfl (⟨gu eh j (aK (aK aq)) hO j bh (agm aM),GX (aa:=H) nP (aK aq) _,?_⟩)));refine aBV (fun o bC=>by have:=hf.Fh o (wh o bC);omega) (by have:=hf.off;omega) (by have:=hf.cz;omega) Tv aB2 mo (by omega) hO ?_;rw[aB0 aQ];intro H aH pk hJ hO;have Cj:aj H hH:=by refine hO.sub ?_;simp only[append_assoc];exact sublist_append_left _ _
 refine ah jT (ah jU (ah fl (bz (fun h1=>?_) (fun h1=>?_))));refine bV hJ.bP (bV hh.bP (ah ss (ah (hT h1) (bz (fun h2=>?_) (fun h2=>?_)))));refine bV hh.bP ?_;obtain⟨dD,bt,jR⟩:=wM hJ (n:=an.length) (by omega);refine ah bt (bV (b3.bl hO (jR _ hJ)) (bV (b3.bl hO hh.app.app.app.app) (ah (QZ _ _) (ah (hT h2) (qf (fun aB=>?_) (fun aB=>?_))))));exact ag H Cj;refine ah sS (next H Cj fun wk=>?_);rw[wk.2.2]at aB;simp at aB;exact ah (ho h2) (et rfl (ah sS (next H Cj fun wk=>h2 (by have:=wk.2.1;omega))));exact ah (ho h1) (ah mr (et rfl (ah sS (next H Cj fun wk=>h1 wk.1))));obtain⟨f,h1,_⟩:=oh;rw[drop_eq_nil_of_le (by omega)]at h1;cases h1
theorem aB3(hf:w.jP)(aM:pZ ae w wv ov fv kv)(ok:m.b6)(U:en m)(aD:eY ae aT m.bo)(oh:∃f,(f=⟨0,0,0⟩\/f∈w.bj)/\Ci w (qp w.kg.key m) f)(hO:aj H ae)(ag:∀aa,aj aa ae->ab (.bool true) aa):az P 37 [agg (jb w wv ov fv kv),agg (bM m aT)] H ab:=by
 apply ao4;unfold Yz;rw[ri,ri];refine c4 hO ?_;intro fS H hO;refine c4 hO ?_;intro cC H hO;have aq:∀ {bX},((ae++[(fS,(⟨jb w wv ov fv kv,true⟩:ay))])++bX)[ae.length+0]?=some (fS,⟨jb w wv ov fv kv,true⟩):=aK (aA rfl);refine ah b0 (ah b0 (aP hO _ aq (v:=kv) rfl (fs hO (_+0) (aA rfl) (el ok.cX) (by omega) (aeq ok hO aM.key.app.app aD.app.app aM.zT (by have:=hf.key;omega) (fun h=>absurd U h) ?_))));intro _ H hv oV hO hh;refine ah jT (ah jU (ah ik (nr (by decide) (ah SB (gj hO (agY _ _) ?_)))));intro uO H hO;refine ah b0 (aP hO _ (aK (aK aq)) (v:=fv) rfl ?_)
 replace hO:aj H (((((ae++[(fS,(⟨jb w wv ov fv kv,true⟩:ay))])++[(cC,⟨bM m aT,true⟩)])++bB hv oV)++[(uO,⟨h9 ⟨0,0,0⟩,true⟩)])++[]):=by rw[append_nil];exact hO
 have U:gZ ((((ae++[(fS,(⟨jb w wv ov fv kv,true⟩:ay))])++[(cC,⟨bM m aT,true⟩)])++bB hv oV)++[(uO,⟨h9 ⟨0,0,0⟩,true⟩)]) (aC uO 0 1 7) [⟨0,0,0⟩]:=.inr ⟨uO,0,7,rfl,.inr rfl,.inr ⟨_,_,aA (k:=0) rfl,rfl⟩⟩;have Ey:=hf.bj;refine LK (bj:=[⟨0,0,0⟩]) hO (.inr ⟨⟨uO,0,rfl⟩,U⟩) (aM.bj.app.app.app.app) (by grind) ?_;intro H EL X hO lB;rw[append_nil]at hO;refine bV lB.bP (aB1 (w:=w) (wv:=wv) (ov:=ov) (fv:=fv) (kv:=kv) (an:=qp w.kg.key m) hf ?_ ?_ lB ?_ (by grind) (aK (aK (aK aq))) ?_ hO ?_);exact aM.app.app.app.app.app;exact(hh.hF.app').app.app;intro f sk;rcases mem_append.1 sk with h|h
 simp_all
 exact aM.B8 f h
 simp_all
 intro aa im;refine ag aa (im.sub ?_);simp only[append_assoc];exact sublist_append_left _ _
end J
namespace J
open Go Go.Ab
variable[cr:bW]
variable{H:ar}{S F X R ae:List (Nat×ay)}{ab:VH}{q q2:hK}{p bw:dG}{N i oa j ft fS:Nat}{ao:List Value}{v wv ov fv kv fV:Value}{w:ei}{n:Nat}
theorem aB4{size n:Nat}{ao:List Value}(h:il size v n ao):bP v H=some (int n,H):=by rcases h with⟨rfl,rfl,_⟩|⟨p,rfl|rfl,_⟩<;>rfl
theorem aB5{size n:Nat}{ao:List Value}(h:il size v n ao)(aR:0<n):∃p c,v=Go.Ab.aC p 0 n c/\bB v ao=[(p,⟨ao,true⟩)]:=by
 rcases h with⟨_,h,_⟩|⟨p,rfl|rfl,_⟩
 omega;exact⟨_,_,rfl,rfl⟩;exact⟨_,_,rfl,rfl⟩
theorem aB6{l:List Op}{i:Nat}(h:i<l.length):((lJ l).drop (i*4)).take 4=jc l[i]:=by have dh:=zz (f:=jc) (l:=l) (n:=4) (o:=0) (m:=4) (fun s al=>rfl) h (by omega);rw[Nat.add_zero]at dh;unfold lJ;rw[dh,drop_zero];rfl
theorem aB7:cQ P 86=jc ⟨0,0,0,0⟩:=by rfl
theorem c8.SW(h:c8 H S F q p N)(ag:∀aa fq,q.fB fq->il 4 q.L.fV p.w.m.bf.length (lJ p.w.m.bf)->p.w.m.bf.length<=N->c8 aa S (F++bB q.L.fV (lJ p.w.m.bf)) fq {p with w:={p.w with m:={p.w.m with bf:=[]}}} N->ab q.L.fV aa):az P 30 [ai q.L.cG 0] H ab:=by
 obtain⟨aQ,R,U,hO⟩:=h;have eh:aj H (((S++(F++R))++[(q.c,(⟨q.bx p,true⟩:ay)),(q.b8,⟨fp p.w.s q.L.cG,true⟩),(q.w,⟨q.W.jw p.w,true⟩),(q.bU,⟨fQ q.cd q.fv p.bI.dF,true⟩),(q.cD,mD p.d.fF p.d.lZ q.eC p.d.fa.length),(q.eC,mE p.d.fa),(q.ew,⟨oF q p.w.cK p.st p.iT,true⟩)])++du q.L p.w.m):=by rw[append_assoc];exact hO
 refine acP eh aQ.own ?_;intro aa hO hv;have hm:nU {p.w.m with bf:=[]}:=⟨⟨aQ.m.ok.d,aQ.m.ok.s,aQ.m.ok.n⟩,aQ.m.b⟩;refine ag aa {q with L:={q.L with fV:=bq}} ⟨rfl,rfl,rfl,rfl,⟨rfl,rfl,rfl,rfl⟩⟩ aQ.own.o aQ.ke.2 ⟨⟨aQ.tz,aQ.w3,aQ.w4,aQ.w5,aQ.uK,aQ.s,hm,hv,⟨aQ.ke.1,zero_le _⟩,aQ.bI,aQ.dF,aQ.d1,aQ.d2,aQ.kT,fun h=>?_⟩,R,U,?_⟩;obtain⟨lU,ns,kI,pK,Ty⟩:=aQ.eV h;exact⟨lU,ns,⟨kI.q,kI.aI,kI.bY,kI.gi,kI.rl,kI.s,hm,hv,kI.dv,kI.wr⟩,pK,Ty⟩;show aj aa ((S++((F++bB q.L.fV (lJ p.w.m.bf))++R))++([(q.c,(⟨q.bx p,true⟩:ay)),(q.b8,⟨fp p.w.s q.L.cG,true⟩),(q.w,⟨q.W.jw p.w,true⟩),(q.bU,⟨fQ q.cd q.fv p.bI.dF,true⟩),(q.cD,mD p.d.fF p.d.lZ q.eC p.d.fa.length),(q.eC,mE p.d.fa),(q.ew,⟨oF q p.w.cK p.st p.iT,true⟩)]++du {q.L with fV:=bq} {p.w.m with bf:=[]}));exact hO.e4 (gI fun sQ=>by simp only[countP_append,countP_cons,countP_nil];omega)
theorem c8.iP{a:Int}(bp:a<=9223372036854775807)(h:c8 H S F q p N)(ag:∀aa,c8 aa S F q {p with w:={p.w with m:={p.w.m with d:=p.w.m.d.zC a}}} N->ab (.tuple [].toArray) aa):az P 33 [ai q.L.ba 0,int a] H ab:=by obtain⟨aQ,R,U,hO⟩:=h;rw[EJ,<- append_assoc]at hO;refine as0 (du.BE hO) ?_;intro aa hO;have hO:=du.KL (m:={p.w.m with d:=p.w.m.d.zC a}) hO;have aO:=aQ.m.ok.d;have hm:nU {p.w.m with d:=p.w.m.d.zC a}:=⟨⟨⟨aO.c,aO.n,aO.ds,aO.m,by show-1<=max a (-1)/\max a (-1)<=9223372036854775807;omega⟩,aQ.m.ok.s,aQ.m.ok.n⟩,aQ.m.b⟩;have bC:kp q.L {p.w.m with d:=p.w.m.d.zC a}:=⟨aQ.own.d,aQ.own.o⟩;refine ag aa ⟨⟨aQ.tz,aQ.w3,aQ.w4,aQ.w5,aQ.uK,aQ.s,hm,bC,aQ.ke,aQ.bI,aQ.dF,aQ.d1,aQ.d2,aQ.kT,fun h=>?_⟩,R,U,?_⟩;obtain⟨lU,ns,kI,pK,Ty⟩:=aQ.eV h;exact⟨lU,ns,⟨kI.q,kI.aI,kI.bY,kI.gi,kI.rl,kI.s,hm,bC,kI.dv,kI.wr⟩,pK,Ty⟩;rw[EJ,<- append_assoc];exact hO
theorem aB8{bf:List Op}{b1 b2 hB ml lS nO:Value}{bL:LX}{cy:LN}(pW:il 4 fV bf.length (lJ bf))(hg:∀o∈bf,o.eo=w.bR.iZ/\o.part=1+w.bR.aC)(an:k0 w.bR.aC)(aE:bf.length<=1000000)
  (bh:ae[j]?=some (fS,⟨jb w wv ov fv kv,true⟩)) (hO:aj H (ae++bB fV (lJ bf))) (ag:∀aa,aj aa (ae++bB fV (lJ bf))->bL 3 [ai fS 0,b1,b2,hB,ml,lS,nO] aa):
  eI P true 247 Tn 4132070672510939562100 [ai fS 0,b1,b2,hB,ml,lS,nO,fV,int bf.length,int 0] H bL cy:=by
 refine aBl (fun k aF aa=>∃y:Nat,y<=bf.length/\k=bf.length-y/\aF=[ai fS 0,b1,b2,hB,ml,lS,nO,fV,int bf.length,int y]/\aj aa (ae++bB fV (lJ bf))) _ _ ?_ bf.length _ _ ⟨0,by omega,rfl,rfl,hO⟩;rintro k aF H ⟨y,a8,rfl,rfl,hO⟩;unfold agV
 try simp only[cu,cv]
 refine ah ez (bz (fun h=>?_) (fun h=>?_));have fU:y<bf.length:=by omega
 obtain⟨ahg,aEb,rfl,Ez⟩:=aB5 pW (by omega);refine ah (h4 (by omega) (by omega)) ?_;rw[Ez]at hO;refine hG hO (ae.length+0) (aA rfl) (show _=jc bf[y] by simp_all[aB6]) rfl (by omega) ?_;rw[aB7];refine c4 hO ?_;intro Ll H hO;refine e7 hO (_+0) (aA rfl) rfl rfl rfl ?_;intro H hO
 replace hO:=hO.cb
 obtain⟨b7,ca⟩:=hg bf[y] (getElem_mem fU);have Cj:=hO.left;rw[<- Ez]at Cj;generalize bf[y]=o at*;obtain⟨ok,aEc,ahh,aEd⟩:=o;simp only at b7 ca;subst b7 ca;have sP:(((ae++[(ahg,(⟨lJ bf,true⟩:ay))]))++[(Ll,(⟨jc ⟨ok,1+w.bR.aC,ahh,w.bR.iZ⟩,true⟩:ay))])[(ae++[(ahg,(⟨lJ bf,true⟩:ay))]).length+0]?=some (Ll,⟨jc ⟨ok,1+w.bR.aC,ahh,w.bR.iZ⟩,true⟩):=aA rfl;have u7:(au P .add 3 true).f (int 1) (int w.bR.aC)=some (int (1+w.bR.aC)):=jg (by omega) (by omega);exact ah b0 (aP hO _ sP (v:=int w.bR.iZ) rfl (ah b0 (ah b0 (aP hO j (aK (aK bh)) (v:=int w.bR.iZ) rfl (ah ik (nr (fun h=>h rfl) (ah b0 (aP hO _ sP (v:=int (1+w.bR.aC)) rfl (ah b0 (ah b0 (aP hO j (aK (aK bh)) (v:=int w.bR.aC) rfl (ah u7 (ah ik (ah (ho (fun h=>h rfl)) (nr (fun h=>h rfl) (ah (v:=int ((y+1:Nat):Int)) (by grind[jg]) (⟨_,by omega,y+1,by omega,rfl,rfl,Cj⟩)))))))))))))))));exact ag H hO
abbrev HE(w:ei):dG->Prop:=V.jY (w0 w.off) w.bj w.bR.cz w.kg.key ⟨w.kg.cE,w.bR.ck,64*((w.k4.toNat:Nat):Int)⟩ w.k4.toNat w.bR.iZ w.bR.aC (pY w)
theorem aB9{b1 z va:Value}{acts:List tC}{bL:LX}{cy:LN}(hA:RdAcP S va acts)(aR:acts.length<=250)(Tz:∀a∈acts,a.n<=9223372036854775807)(an:k0 w.bR.aC)(aq:F[i]?=some (ft,⟨ao,true⟩))(Xj:ao[0]?=some (ai q.L.cG 0))(hv:ao[3]?=some (ai q.ew 0))(EN:F[oa]?=some (fS,⟨jb w wv ov fv kv,true⟩))(lk:HE w p)(h:c8 H S F q p 30)
  (ag:∀aa X fq jf,q.fB fq->HE w jf->c8 aa (S++X) F fq jf 280->bL 0 [ai fS 0,b1,ai ft 0,z] aa):
  eI P true 247 Tm 116 [ai fS 0,b1,ai ft 0,z,va,int acts.length,int 0] H bL cy:=by
 refine aBj (fun k aF aa=>∃(y:Nat) (X:List (Nat×ay)) (fq:hK) (jf:dG),y<=acts.length/\k=acts.length-y/\aF=[ai fS 0,b1,ai ft 0,z,va,int acts.length,int y]/\q.fB fq/\HE w jf/\c8 aa (S++X) F fq jf (30+y)) _ _ ?_ acts.length _ _ ⟨0,[],q,p,zero_le _,rfl,rfl,.gl,lk,by rw[append_nil];exact h⟩;rintro k aF H ⟨y,X,fq,jf,a8,rfl,rfl,aw,lk,h⟩;unfold agT
 try simp only[cu,cv]
 refine ah ez (bz (fun h1=>?_) (fun h1=>?_));have fU:y<acts.length:=by omega
 have sS:(au P .add 3 true).f (int y) (int 1)=some (int ((y+1:Nat):Int)):=by grind[jg]
 obtain⟨CH,Q4,Tw,aEe,aEf,Af,rfl,Tx,oV,mo,wG⟩:=hA.get fU;have LC:=Tz _ (getElem_mem fU);refine ah (h4 (by omega) (by omega)) ?_;rw[Int.toNat_natCast];obtain⟨aQ,R,U,hO⟩:=h;refine hG hO Tw (aK (aK (aK Tx))) oV rfl (by omega) ?_;have h:c8 H (S++X) F fq jf (30+y):=⟨aQ,R,U,hO⟩;refine h.tmp (fv:=Af) (a:=acts[y]) mo.app ?_;intro e H u h;generalize acts[y]=iB at*;have he:(F++[(e,(⟨sW iB Af,true⟩:ay))])[F.length+0]?=some (e,⟨sW iB Af,true⟩):=aA rfl;have fJ:(F++[(e,(⟨sW iB Af,true⟩:ay))])[i]?=some (ft,⟨ao,true⟩):=aK aq;refine e6 (fun aF aa=>∃(pk:List (Nat×ay)) (q2:hK) (bw:dG),aF=[ai fS 0,b1,ai ft 0,z,aC CH 0 acts.length Q4,int acts.length,int y]/\q.fB q2/\HE w bw/\c8 aa ((S++X)++pk) (F++[(e,⟨sW iB Af,true⟩)]) q2 bw (30+(y+1))) ?_ ?_;refine ah b0 (h.qC he (v:=int iB.k) rfl (ah fl (bz (fun h2=>?_) (fun h2=>?_))));refine aU (h.qC fJ (by omega) (ah b0 (h.qC he (v:=int iB.n) rfl ?_)));rw[<- aw.ew];refine azE h ?_;intro H h;exact⟨[],fq,_,rfl,aw,lk.z1,by rw[append_nil];exact h.mono (by omega)⟩;refine ah fl (bz (fun aB=>?_) (fun aB=>?_));refine aU (h.qC fJ (by omega) ?_);rw[<- aw.ew];refine azF h ?_;intro H h;exact⟨[],fq,_,rfl,aw,lk.B7,by rw[append_nil];exact h.mono (by omega)⟩;refine ah fl (bz (fun bk=>?_) (fun bk=>?_));refine aU (h.qC fJ (by omega) ?_);rw[<- aw.L.m];refine h.yf (ah b0 (h.qC he (v:=int iB.n) rfl (⟨h.aA9 h he he (by show(true&&(true&&(fE Af&&true)))=true;rw[mo.q9];rfl),?_⟩)))
 refine c8.iP LC h ?_;intro H h;exact⟨[],fq,_,rfl,aw,lk.zC,by rw[append_nil];exact h.mono (by omega)⟩;refine aU (h.qC fJ (by omega) (ah b0 (h.qC he (v:=int iB.n) rfl ?_)));rw[<- aw.ew];refine SO (by omega) h ?_;intro H q2 pk ni h;exact⟨pk,q2,_,rfl,aw.trans ni,lk.step,h.mono (by omega)⟩;rintro aF H ⟨pk,q2,bw,rfl,aw,lk,h⟩
 try simp only[cu,cv]
 refine aU (h.qC fJ (by omega) ?_);rw[<- aw.L.m];refine h.SW ?_;intro H dz ME pW hlen h;refine bV (aB4 pW) ?_;have wH:=lk.rr.bf;have aCa:=lk.bf;generalize bw.w.m.bf=bf at*;generalize q2.L.fV=fV at*;generalize ({bw with w:={bw.w with m:={bw.w.m with bf:=[]}}}:dG)=eX at*;obtain⟨aQ,R,U,hO⟩:=h;have eh:aj H (((((S++X)++pk)++((F++[(e,⟨sW iB Af,true⟩)])++R))++k2 dz eX)++bB fV (lJ bf)):=
  hO.e4 (gI fun sQ=>by simp only[countP_append,countP_cons,countP_nil];omega)
 refine aB8 (w:=w) (wv:=wv) (ov:=ov) (fv:=fv) (kv:=kv) (fS:=fS) (j:=((S++X)++pk).length+oa) pW wH an (by omega) (aK (aA (aK (aK EN)))) eh ?_;intro H hO;show cond (Nat.beq 3 3) _ _;rw[beq_refl];show ad ((au P .add 3 true).f (int y) (int 1)) _;refine ah sS (⟨_,by omega,y+1,X++pk,dz,eX,fU,rfl,rfl,aw.trans ME,aCa,?_⟩);have aB:c8 H ((S++X)++pk) (F++[(e,⟨sW iB Af,true⟩)]) dz eX (30+(y+1)):=⟨aQ,R,U,hO.left⟩;rw[<- append_assoc];exact aB.sub (sublist_append_left _ _);exact ag H X fq jf aw lk (h.mono (by omega))
end J
namespace J
open Go Go.Ab
variable[cr:bW]
variable{H:ar}{X ae:List (Nat×ay)}{i j dJ:Nat}{ao:List Value}{v va aT EH rL:Value}{all:List Int}{m:dm}
theorem aCb{i:Nat}(U:en m)(aq:i<m.bo.length)(dQ:m.cU<=all.length):∃a n:Nat,gm m i=((a:Int),(n:Int))/\a+n<=all.length/\a+n<=65536:=by
 have h:=GV U (i:=(i:Int)) (by omega) (by omega);have h2:=U.2.2.2.2.2.1;have aB:=U.2.2.2.2.2.2.1;have cj:=U.2.2.2.2.1;unfold gm;rw[if_neg (by simp_all)];have bS:0<=min m.bx (m.cU-(i:Int)*m.bx)/\(i:Int)*m.bx+min m.bx (m.cU-(i:Int)*m.bx)<=m.cU:=by omega
 obtain⟨a,bp⟩:=Int.eq_ofNat_of_zero_le h.1;obtain⟨n,aR⟩:=Int.eq_ofNat_of_zero_le bS.1;have bp:(i:Int)*m.bx=(a:Int):=bp;have aR:min m.bx (m.cU-(i:Int)*m.bx)=(n:Int):=aR;refine⟨a,n,by grind,?_,?_⟩<;>omega
theorem aCc{bL:LX}{cy:LN}(ok:m.b6)(U:en m)(aD:eY ae aT m.bo)(vy:b3 ae va all)(nj:cl all)(dQ:m.cU<=all.length)(qJ:ae[j]?=some (dJ,⟨bM m aT,true⟩))
  (iD:∀i,i<m.bo.length->hr ((all.drop (gm m i).1.toNat).take (gm m i).2.toNat)=m.bo.getD i [])
  (hO:aj H ae) (ag:∀aa,aj aa ae->bL 5 [EH,rL,ai dJ 0] aa):
  eI P true 247 To 2068 [EH,rL,ai dJ 0,va,aT,int m.bo.length,int 0] H bL cy:=by
 refine aBk (fun k aF aa=>∃y:Nat,y<=m.bo.length/\k=m.bo.length-y/\aF=[EH,rL,ai dJ 0,va,aT,int m.bo.length,int y]/\aj aa ae) _ _ ?_ m.bo.length _ _ ⟨0,zero_le _,rfl,rfl,hO⟩;rintro k aF H ⟨y,a8,rfl,rfl,hO⟩;unfold agU
 try simp only[cu,cv]
 refine ah ez (bz (fun h=>?_) (fun h=>?_));have fU:y<m.bo.length:=by omega
 have zQ:=SE U;obtain⟨p,c,BR,jw,kU,Es⟩:=aD.aZ (by omega);have p8:=ok.dN _ (getElem_mem fU);have Mb:=iD y fU;obtain⟨a,n,pI,bp,aEg⟩:=aCb U fU dQ;rw[pI]at Mb;simp only[Int.toNat_natCast]at Mb;rw[getD_eq_getElem?_getD,List.getElem?_eq_getElem fU,Option.getD_some]at Mb;rw[kU];refine ah (h4 (by omega) (by omega)) (hG (ao:=a1 m.bo[y]) hO BR Es (Rb ok.dN fU) (by simp_all) (by omega) ?_);rw[K9];refine c4 hO ?_;intro e H hO;refine e7 hO (_+0) (aA rfl) rfl (by simp_all) (by simp[a1,eA]) ?_;intro H hO
 replace hO:=hO.cb
 replace hO:aj H (ae++[(e,⟨a1 m.bo[y],true⟩)]):=hO
 refine fs hO j (aK qJ) (el ok.cX) (by omega) ?_;rw[<- kU];refine awq ok aD.app hO ?_;intro H hO;rw[pI];refine ah jT (ah jU (ah (v:=int ((a+n:Nat):Int)) (by grind[jg]) ?_));obtain⟨dD,bt,jR⟩:=Lg vy (i:=a) (t:=a+n) (by omega) bp;refine ah bt ?_;have ie:=(jR _ vy).app (bX:=[(e,(⟨a1 m.bo[y],true⟩:ay))]);have dZ:(all.take (a+n)).drop a=(all.drop a).take n:=by simp_all[drop_take]
 rw[dZ]at ie;have nP:=hO;refine BO hO ie (fun x al=>nj x (mem_of_mem_drop (mem_of_mem_take al))) (by rw[length_take,length_drop];omega) ?_;intro H hO;refine fs hO (_+0) (aA rfl) (by simp_all) (by omega) (⟨gu nP (ae.length+0) (aA rfl) hO (ae.length+0) (aA rfl) (by simp[a1,fE,sv]),?_⟩);rw[Mb];exact ah (K7 false p8 p8) (nr (fun h=>h rfl) (ah (v:=int ((y+1:Nat):Int)) (by grind[jg]) (⟨_,by omega,y+1,fU,rfl,rfl,hO.left⟩)));exact ag H hO
theorem ahi:∀(n N:Nat) (c:List Value) (b:List (List Value)),fZ P (List.replicate n 72) N c b->∃(acts:List tC) (aJ:List (List Value)),c=aJ.flatten/\acts.length=n/\Al (w9 (nt N b)) acts aJ/\∀a∈acts,a.n<=9223372036854775807
 | 0,N,c,b,h=>by cases h;exact⟨[],[],rfl,rfl,.nil,by simp⟩
 | n+1,N,c,b,h=>by
  have aN:=Em Go.Proofs.Tryz.underlying72 (show fZ P (72::List.replicate n 72) N c b from h);have aN:fZ P (3::3::24::List.replicate n 72) N c b:=aN;obtain⟨k,eP,rfl,dH,h1⟩:=rM (k:=.i64) Go.Proofs.Tryz.underlying3 aN;obtain⟨a,dR,rfl,e0,h2⟩:=rM (k:=.i64) Go.Proofs.Tryz.underlying3 h1;obtain⟨fv,ij,b1,b2,bj,rfl,rfl,b7,ca,aB⟩:=agH h2;obtain⟨acts,aJ,rfl,aE,kD,an⟩:=ahi n _ _ _ aB;rw[OI];refine⟨⟨k,a,bj⟩::acts,sW ⟨k,a,bj⟩ fv::aJ,?_,by simp[aE],.cons ⟨fv,rfl,b7.app,ca⟩ (kD.ts fun _ _ h=>h.app'),?_⟩;simp[sW];intro x al;rcases mem_cons.1 al with rfl|al
  exact(alH e0).2;exact an x al
theorem aEh{cR:List TypeId}{N:Nat}{av:List Value}{b:List (List Value)}(h:qV P (70::cR) N av b):
  ∃v vs b1 b2 acts,av=v::vs/\b=b1++b2/\(RdAcP (nt N b1) v acts/\∀a∈acts,a.n<=9223372036854775807)/\qV P cR (N+b1.length) vs b2:=by
 obtain⟨v,vs,b1,b2,e,FJ,h1,h2⟩:=alJ h (by simp_all) (by simp_all);rcases JI aA0 h1 with⟨b5,bb,aB⟩|⟨len,cells,b5,bs,c0,bb,Cg,hm,aE,aB,bk⟩
 cases bb;exact⟨_,vs,b1,b2,[],e,FJ,⟨⟨[],.inl ⟨rfl,rfl,rfl⟩,.nil⟩,by simp⟩,h2⟩;cases bb;obtain⟨acts,aJ,rfl,rfl,kD,an⟩:=ahi _ _ _ _ aB;obtain⟨-,rfl⟩:=Ww bk;subst Cg;rw[append_nil]at*;refine⟨_,vs,_,b2,acts,e,FJ,⟨⟨aJ,.inr ⟨N,_,0,false,rfl,rfl,?_⟩,?_⟩,an⟩,h2⟩;rw[aE,aA1];exact kD.ts fun _ _ h=>h.app' (X:=[(N,⟨aJ.flatten,false⟩)])
end J
namespace J
open Go Go.Ab
variable{H:ar}{S F X R ae:List (Nat×ay)}{ab:VH}{q bO:hK}{cC:dG}{i ft fS:Nat}{v wv ov fv kv va:Value}{w:ei}{f:iY}{ak:List Int}{a ef:Int}{m:dm}{k:List UInt8}
theorem aCd{all:List Int}(h:cl all)(hf:f.v<256):cl (oD all a ef f).1/\(oD all a ef f).1.length<=all.length:=by
 unfold oD;have aD:cl (iI all a ef):=h.cut;have p8:(iI all a ef).length<=all.length:=LO;split
 grind
 split;unfold Ew;by_cases al:iI all a ef=[]
 grind
 rw[if_neg al];have aN:0<(iI all a ef).length:=length_pos_iff.2 al;have dy:(max f.kb 0).toNat%(iI all a ef).length<(iI all a ef).length:=mod_lt _ aN;refine⟨?_,by simp_all⟩;intro x al;rcases mem_or_eq_of_mem_set al with h|rfl
 grind
 rw[getD_eq_getElem?_getD,List.getElem?_eq_getElem dy,Option.getD_some];have an:=aD _ (getElem_mem dy);have OE:(iI all a ef)[(max f.kb 0).toNat%(iI all a ef).length].toNat ^^^ f.v<256:=xor_lt_two_pow (n:=8) (by omega) hf;omega;split
 grind
 split;exact⟨h.cut,LO⟩
 grind
theorem ahj{o:List UInt8×List Int}{ks:List Int}:∀ {hC:ir},nC (hC++[o]) k=some ks->nC hC k=some ks\/o.2=ks
 | [],h=>by
  have h:(if o.1=k then some o.2 else none)=some ks:=h
  simp_all
 | x::r,h=>by
  have h:(if x.1=k then some x.2 else nC (r++[o]) k)=some ks:=h;show(if x.1=k then some x.2 else nC r k)=some ks\/_;by_cases al:x.1=k
  simp_all
  simp_all[ahj]
theorem ahk{ks:List Int}:∀(l hC:ir),nC (l.foldl qw hC) k=some ks->nC hC k=some ks\/∃o∈l,o.2=ks
 | [],hC,h=>.inl h
 | o::r,hC,h=>by
  rcases ahk r (qw hC o) h with h|⟨x,al,he⟩
  unfold qw at h;split at h;rcases ahj h with h|h
  exact .inl h;exact .inr ⟨o,mem_cons_self,h⟩;exact .inl h;exact .inr ⟨x,mem_cons_of_mem _ al,he⟩
theorem aCe{cg:ir}(h:nX S v cg):∀o∈cg,cl o.2:=by intro o bC;obtain⟨i,aq,rfl⟩:=List.getElem_of_mem bC;obtain⟨_,_,_,_,_,_,_,_,_,_,an⟩:=h.get aq;exact an
theorem aCf{t:kJ}(aM:pZ S w wv ov fv kv)(hf:w.jP)(h:V.Ma (w0 w.off) w.bj w.bR.cz w.kg.key t m):m.b6/\∃f,(f=⟨0,0,0⟩\/f∈w.bj)/\Ci w (qp w.kg.key m) f:=by
 obtain⟨bs,⟨f,ks,h1,h2,aB⟩,bk,cj,dh⟩:=h;have mo:f.v<256:=by
  rcases h1 with rfl|h1
  decide;exact aM.B8 f h1
 have kD:cl ks/\ks.length<=4000:=by
  rcases ahk w.off [] h2 with h|⟨o,bC,rfl⟩
  cases h;exact⟨aCe aM.off o bC,(hf.Fh o bC).2⟩
 have hg:=aCd (a:=0) (ef:=2304) kD.1 mo;rw[aB]at hg;have hg:cl bs/\bs.length<=ks.length:=hg
 grind[EM,RH,Ci]
theorem aCg(t:TypeId)(c:Bool)(ak:List Int):(au P .neq t c).f (DB ak) (DB ak)=some (.bool false):=by
 have:(au P .neq t c).f (DB ak) (DB ak)=some (.bool (!((ak.map fun n=>UInt8.ofNat n.toNat)==ak.map fun n=>UInt8.ofNat n.toNat))):=rfl
 simp_all
theorem aCh{aT:Value}(aO:m.cD.length=32):((bM m aT).drop (0+4)).take 32=a1 m.cD:=by simp_all[bM]
theorem aEi[cr:bW]{acts:List tC}(aM:pZ ae w wv ov fv kv)(hA:RdAcP ae va acts)(Tz:∀a∈acts,a.n<=9223372036854775807)(hO:aj H ae)(ma:∀H,ab (.bool true) H):az P 8 [agg (jb w wv ov fv kv),va] H ab:=by
 apply aBm;unfold agW;rw[ri];refine c4 hO ?_;intro fS H hO;refine aAS hO ?_;intro EE H X _ hO;refine ah jF (et rfl ?_);have ve:pZ (ae++X) w wv ov fv kv:=aM.app;have tj:RdAcP (ae++X) va acts:=hA.app;generalize ae++X=S at*;refine e6 (fun aF aa=>aF=[va,ai fS 0,.bool false]/\w.jP/\acts.length<=250/\k0 w.bR.aC/\aj aa (S++[(fS,⟨jb w wv ov fv kv,true⟩)])) ?_ ?_;refine fs hO (S.length+0) (aA rfl) (n:=16) rfl (by omega) (aAp ve hO (fun aa=>?_) (fun hf aa hO=>?_));exact fg rfl (ah ll (ah ll (ah ll (fg rfl (ma _)))));refine et rfl (bV tj.bP (ah kQ (ah mr (bz (fun h1=>?_) (fun h1=>?_)))));exact ah (hT h1) (ah ll (fg rfl (ma _)));refine ah b0 (ah b0 (aP hO (S.length+0) (aA rfl) (v:=int w.bR.aC) rfl (ah ez (ah (ho h1) (bz (fun h2=>?_) (fun h2=>?_))))));exact ah (hT h2) (fg rfl (ma _));refine ah b0 (ah b0 (aP hO (S.length+0) (aA rfl) (v:=int w.bR.aC) rfl (ah kQ (ah (ho h2) (bz (fun aB=>?_) (fun aB=>?_))))));exact ma _;exact⟨rfl,hf,by omega,by unfold k0;omega,hO⟩;rintro aF H ⟨rfl,hf,bp,an,hO⟩
 try simp only[cu,cv]
 refine fs hO (S.length+0) (aA rfl) (n:=16) rfl (by omega) (SV hf ve hO ?_ ?_);intro aN yF H ft cG bU b8 G hO;refine e6 (fun aF aa=>aF=[va,ai fS 0,.bool false,ai ft 0,.bool true]/\aa=H) ?_ ?_;exact ah (L4 _) (et rfl (aU (aP hO (G.length+0) (aA rfl) (v:=.pointer none) rfl (ah aAW (ah mr (⟨rfl,rfl⟩))))));rintro aF aa ⟨rfl,rfl⟩
 try simp only[cu,cv]
 refine fg rfl (ah (aBb _) (fg rfl (aU (aP hO (G.length+0) (aA rfl) (v:=int (mh.jI w.bR.iZ w.bR.aC).2.1) rfl (ah ik (ah ll ?_))))));rw[decide_eq_true aN];exact ma _;intro aN yF H ft q pk _ _ hg;have agC:1<=w.bR.iZ:=by grind[fM.jI]
 have lk:HE w (r4 w):=V.aBN agC an;have aCi:(pY w).hq=V.yG w.k4.toNat:=SU w;have aCj:(r4 w).w.m=pY w:=rfl;refine e6 (fun aF aa=>aF=[va,ai fS 0,.bool false,ai ft 0,.bool false]/\aa=H) ?_ ?_;exact ah (L4 _) (et rfl (aU (hg.cw (L6 .gl) (ah (Tf _) (ah mr (⟨rfl,rfl⟩))))));rintro aF aa ⟨rfl,rfl⟩
 try simp only[cu,cv]
 have EN:([(fS,(⟨jb w wv ov fv kv,true⟩:ay))]++[(ft,(⟨mI q,true⟩:ay))])[0]?=some (fS,⟨jb w wv ov fv kv,true⟩):=rfl;have sh:([(fS,(⟨jb w wv ov fv kv,true⟩:ay))]++[(ft,(⟨mI q,true⟩:ay))])[1]?=some (ft,⟨mI q,true⟩):=rfl;generalize [(fS,(⟨jb w wv ov fv kv,true⟩:ay))]++[(ft,(⟨mI q,true⟩:ay))]=F at*;refine et rfl ?_;have rE:(au P .sub 3 true).f (int 2) (int w.bR.aC)=some (int (1+(1-w.bR.aC))):=by rw[show(1:Int)+(1-w.bR.aC)=2-w.bR.aC by omega];unfold k0 at an;rcases an with an|an<;>rw[an]<;>kernel_rfl
 have aCk:(au P .add 3 true).f (int 1) (int w.bR.aC)=some (int (1+w.bR.aC)):=jg (by omega) (by omega);refine aU (hg.qC sh (HA .gl) (ah b0 (ah b0 (hg.qC EN (v:=int w.bR.aC) rfl (ah rE (hg.all ?_))))));intro H dS eP jh hg;rw[aCj]at jh;refine hg.bl (by rw[<- append_assoc];exact jh.hF.app') ?_;have hg:=hg.sub (sublist_append_left _ _);refine bV tj.bP ?_;generalize r4 w=aEj at*;refine aB9 (w:=w) tj.app bp Tz an sh (HA .gl) (L6 .gl) EN lk hg ?_;intro H Hy bO cC aw lk hg;show cond (Nat.beq 0 0) _ _;rw[beq_refl];show ad (rv (ai ft 0)) _;refine aU (hg.qC sh (HA aw) (ah b0 (ah b0 (hg.qC EN (v:=int w.bR.aC) rfl (ah rE (hg.all ?_))))));intro H dD dR jG hg;rw[lk.l0 aCi]at jG;refine hg.bl (by rw[<- append_assoc];exact jG.hF.app') ?_;have hg:=hg.sub (sublist_append_left _ _);refine ah (aCg _ _ _) (et rfl (aU (hg.qC sh (L6 aw) (Hl hg (ah ik (bz (fun h2=>?_) (fun h2=>?_)))))));exact ma _;have mq:=lk.ed an (Classical.not_not.1 h2);have xw:pZ ((S++pk)++Hy) w wv ov fv kv:=ve.app.app;generalize (S++pk)++Hy=S3 at*;obtain⟨eL,oh⟩:=aCf xw hf mq.g;have CO:qs cC.c.aI ⟨w.kg.cE,w.bR.ck,64*((w.k4.toNat:Nat):Int)⟩=0:=by obtain⟨_,_,_,g3,g4⟩:=mq.g;exact g4
 refine aU (hg.qC sh (L6 aw) (aBr hg ?_));intro H l3 Fi hg;refine ah jT (ah jU (hg.aBv (m:=cC.c.aI) eL.cX Fi.e5 ?_));intro g5 H u hg;have aCl:((F++bB l3 (fA cC.c.aI.bo))++[(g5,(⟨bM cC.c.aI l3,true⟩:ay))])[(F++bB l3 (fA cC.c.aI.bo)).length+0]?=some (g5,⟨bM cC.c.aI l3,true⟩):=aA rfl;have aCm:eY (S3++((F++bB l3 (fA cC.c.aI.bo))++[(g5,(⟨bM cC.c.aI l3,true⟩:ay))])) l3 cC.c.aI.bo:=(eY.app' (eY.app' (ae:=F) Fi).app);have ML:((F++bB l3 (fA cC.c.aI.bo))++[(g5,(⟨bM cC.c.aI l3,true⟩:ay))])[0]?=_:=aK (aK EN);have je:((F++bB l3 (fA cC.c.aI.bo))++[(g5,(⟨bM cC.c.aI l3,true⟩:ay))])[1]?=_:=aK (aK sh);generalize A5:(F++bB l3 (fA cC.c.aI.bo))++[(g5,(⟨bM cC.c.aI l3,true⟩:ay))]=qz at*;refine aU (hg.qC je (HA aw) (ah b0 (ah b0 (hg.qC ML (v:=int w.bR.aC) rfl (ah aCk (hg.all ?_))))));intro H v3 ij adi hg;obtain⟨aQ,R,U,hO⟩:=hg;have nj:cl (cC.w.m.all (1+w.bR.aC)):=bn.afk aQ.m.b;have kA:((S3++((qz++bB v3 ij)++R))++k2 bO cC)[S3.length+((F++bB l3 (fA cC.c.aI.bo)).length+0)]?=some (g5,⟨bM cC.c.aI l3,true⟩):=aK (aA (aK (aK aCl)));have oa:((S3++((qz++bB v3 ij)++R))++k2 bO cC)[S3.length+0]?=some (fS,⟨jb w wv ov fv kv,true⟩):=aK (aA (aK (aK ML)));have i1:((S3++((qz++bB v3 ij)++R))++k2 bO cC)[S3.length+1]?=some (ft,⟨mI q,true⟩):=aK (aA (aK (aK je)));have HF:eY ((S3++((qz++bB v3 ij)++R))++k2 bO cC) l3 cC.c.aI.bo:=by have:=aCm.app (bX:=(bB v3 ij++R)++k2 bO cC);simp only[append_assoc]at this⊢;exact this
 have vy:b3 ((S3++((qz++bB v3 ij)++R))++k2 bO cC) v3 (cC.w.m.all (1+w.bR.aC)):=((b3.app' ((adi.hF.app' (ae:=qz)).app (bX:=R)) (ae:=S3)).app);have A8:pZ ((S3++((qz++bB v3 ij)++R))++k2 bO cC) w wv ov fv kv:=xw.app.app;have aEk:=mq.r.2.2.2.1;have az9:=mq.r.2.2.2.2.1;obtain⟨z,dQ⟩:=Int.eq_ofNat_of_zero_le (show 0<=cC.c.aI.cU by omega);have dQ:cC.c.aI.cU=(z:Int):=dQ;have ob:=mq.z;refine e6 (fun aF aa=>aF=[ai fS 0,.bool false,ai g5 0,v3]/\aj aa ((S3++((qz++bB v3 ij)++R))++k2 bO cC)) ?_ ?_;rw[mq.aw];refine ah jF (et rfl (fs hO _ kA (el eL.cX) (by omega) (Eh eL HF hO ?_)));intro H hO;rw[decide_eq_true mq.r];refine ah jF (ah mr (et rfl (bV vy.bP (ah b0 (aP hO _ kA (v:=int cC.c.aI.cU) rfl (ah ez (ah mr ?_)))))));have ey:¬(((cC.w.m.all (1+w.bR.aC)).length:Int)<cC.c.aI.cU):=by omega
 refine nr ey (ah b0 (aP hO _ kA (v:=int cC.c.aI.cU) rfl ?_));rw[dQ]at ob⊢;obtain⟨v4,iX,vm⟩:=wM vy (n:=z) (by omega);refine ah iX ?_;have nP:=hO;refine BO hO (vm _ vy) (fun x al=>nj x (mem_of_mem_take al)) (by rw[length_take];omega) ?_;intro H hO;have rj:=mq.cD;rw[dQ,Int.toNat_natCast]at rj;rw[rj];refine ah b0 (hG hO _ kA (aCh eL.cX) (by rw[nx];exact eL.cX) (by omega) (⟨gu nP _ kA hO _ kA (yn Fi.q9),?_⟩));refine ah (K7 false eL.cX eL.cX) ?_;rw[dQ]at ey;refine ah (ho ey) (nr (fun h=>h rfl) (aU (aP hO _ i1 (HA aw) ?_)));have uL:c8 H S3 (qz++bB v3 ij) bO cC 280:=⟨aQ,R,U,hO⟩;refine uL.yf (uL.aBu ?_);rw[mq.dK];exact ah ik (ah (ho (fun h=>h rfl)) (nr (fun h=>h rfl) (⟨rfl,hO⟩)));rintro aF H ⟨rfl,hO⟩
 try simp only[cu,cv]
 generalize (S3++((qz++bB v3 ij)++R))++k2 bO cC=Γ4 at*;refine ah b0 (aP hO _ kA (q8 eL.cX) (bV HF.bP (aCc eL mq.r HF vy nj ob kA mq.bx hO ?_)));intro H hO;show cond (Nat.beq 5 5) _ _;rw[beq_refl];show af (bT 16 (ai fS 0) H) _;refine fs hO _ oa (n:=16) rfl (by omega) (fs hO _ kA (el eL.cX) (by omega) (aB3 hf A8 eL mq.r HF oh hO ?_));intro H hO;refine fg rfl (fs hO _ kA (el eL.cX) (by omega) (ah b0 (ah b0 (aP hO _ oa (v:=bl w.kg.cE) rfl (ah b0 (ah b0 (aP hO _ oa (v:=bQ .u64 w.bR.ck) rfl (ah b0 (aP hO _ oa (v:=int w.k4) rfl ?_)))))))));have Wk:=hf.s;have aCn:((w.k4.toNat:Nat):Int)=w.k4:=by omega
 rw[aCn]at CO;refine ah (v:=int (64*w.k4)) (xN (by omega) (by omega)) (ah (agc _ _ _) (awh (t:=⟨w.kg.cE,w.bR.ck,64*w.k4⟩) eL HF (by have:=hf.cE;grind) hO ?_));intro H _;rw[CO];refine ah fl (ah ll ?_);show ab (.bool (decide ((0:Int)=0))) H;rw[decide_eq_true rfl];exact ma _
end J
