/- texts of the nf, fh behind the mA -/
import Derived.Test.YtifflnhooaophaaGreatDoorVC
set_option linter.unusedVariables false
set_option linter.unusedSimpArgs false
set_option linter.unusedSectionVars false
set_option maxHeartbeats 8000000
set_option maxRecDepth 100000
open List Nat
namespace J
open Go Go.Ab
noncomputable section
noncomputable abbrev VK:Code:=hb P 5 0
noncomputable abbrev VL:Code:=hb P 5 1
def ajL:LF:=fun l H N bC ch=>ad (ar P .lss 3 false (l 4) (l 3)) fun a=>aE a (ad (hz 3 (l 2) (l 4)) fun b=>af (bZ 3 b H) fun c d=>cG (df P 72) d fun e f=>af (bx 3 e c f) fun g h=>e5 (fun i=>ad (bG 0 e) fun j=>af (aw j h) fun k m=>ad (ar P .eql 3 true k (int 1)) fun n=>aE n (aH (l 1) 3 fun p=>af (aw p m) fun q r=>ad (bG 1 e) fun s=>af (aw s r) fun t u=>ay P 24 [q,t] u fun v w=>i [l 0,l 1,e,l 2,l 3,l 4] w) (ad (ar P .eql 3 true k (int 4)) fun o=>aE o (ad (bG 2 e) fun p=>af (aw p m) fun q r=>af (bO q r) fun s t=>ad (ar P .gtr 3 true s (int 10)) fun u=>aE u (ch [(.bool true),l 1] t) (aH (l 1) 1 fun w=>af (aw w t) fun x y=>ad (bG 2 e) fun z=>af (aw z y) fun A B=>ay P 25 [x,A] B fun C D=>i [l 0,l 1,e,l 2,l 3,l 4] D)) (aH (l 1) 3 fun q=>af (aw q m) fun r s=>ad (bG 1 e) fun t=>af (aw t s) fun u v=>ay P 14 [r,u] v fun w x=>i [l 0,l 1,e,l 2,l 3,l 4] x))) (fun i j=>e5 (fun k=>ad (bG 0 (i 2)) fun m=>af (aw m j) fun n o=>ad (ar P .eql 3 true n (int 2)) fun p=>aE p (aH (i 1) 3 fun r=>af (aw r o) fun s t=>ay P 15 [s] t fun u v=>ad (ar P .eql 3 true u (int 1)) fun w=>ad (aI p w (.bool false)) fun x=>k [i 0,i 1,i 2,i 3,i 4,i 5,x] v) (ad (aI p undef (.bool false)) fun q=>k [i 0,i 1,i 2,i 3,i 4,i 5,q] o)) (fun k m=>aE (k 6) (ad (bG 1 (k 2)) fun n=>af (aw n m) fun o p=>af (iw .u64 o p) fun q r=>ad (ar P .rem 75 true q (.int .u64 3)) fun s=>af (iw .i64 s r) fun t u=>aH (k 1) 3 fun w=>af (aw w u) fun x y=>ay P 14 [x,t] y fun z A=>ad (hx .not z) fun B=>aE B (aH (k 1) 3 fun D=>af (aw D A) fun dm F=>ad (ar P .add 3 true t (int 1)) fun G=>ad (ar P .rem 3 true G (int 3)) fun I=>ay P 14 [dm,I] F fun J L=>ad (hx .not J) fun c4=>ad (aI B c4 (.bool false)) fun dj=>aE dj (aH (k 1) 3 fun R=>af (aw R L) fun S T=>ad (ar P .add 3 true t (int 2)) fun eH=>ad (ar P .rem 3 true eH (int 3)) fun V=>ay P 14 [S,V] T fun W X=>ad (hx .not W) fun hd=>ad (aI dj hd (.bool false)) fun hp=>aE hp (ch [(.bool false),k 1] X) (ad (ar P .add 3 true (k 5) (int 1)) fun a0=>N [k 0,k 1,k 3,k 4,a0] X)) (ad (aI dj undef (.bool false)) fun Q=>aE Q (ch [(.bool false),k 1] L) (ad (ar P .add 3 true (k 5) (int 1)) fun R=>N [k 0,k 1,k 3,k 4,R] L))) (ad (aI B undef (.bool false)) fun C=>ad (aI C undef (.bool false)) fun D=>aE D (ch [(.bool false),k 1] A) (ad (ar P .add 3 true (k 5) (int 1)) fun dm=>N [k 0,k 1,k 3,k 4,dm] A))) (ad (ar P .add 3 true (k 5) (int 1)) fun n=>N [k 0,k 1,k 3,k 4,n] m)))) (bC 0 [l 0,l 1] H)
theorem aER:LpI P 162 VK 48 ajL:=.mk
def ajM:LF:=fun l H N bC ch=>e5 (fun a=>ad (ar P .lss 3 true (l 2) (int 4000)) fun b=>aE b (aH (l 1) 3 fun d=>af (aw d H) fun e f=>ay P 15 [e] f fun g h=>ad (ar P .eql 3 true g (int 1)) fun i=>ad (aI b i (.bool false)) fun j=>aE j (a [l 0,l 1,l 2] h) (bC 3 [l 0,l 1] h)) (ad (aI b undef (.bool false)) fun c=>aE c (a [l 0,l 1,l 2] H) (bC 3 [l 0,l 1] H))) (fun a b=>aH (a 1) 3 fun d=>af (aw d b) fun e f=>ay P 14 [e,(int 0)] f fun g h=>ad (hx .not g) fun i=>aE i (aH (a 1) 3 fun k=>af (aw k h) fun m n=>ay P 14 [m,(int 1)] n fun o p=>ad (hx .not o) fun q=>ad (aI i q (.bool false)) fun r=>aE r (aH (a 1) 3 fun t=>af (aw t p) fun u v=>ay P 14 [u,(int 2)] v fun w x=>ad (hx .not w) fun y=>ad (aI r y (.bool false)) fun z=>aE z (ch [(.bool false),a 1] x) (ad (ar P .add 3 true (a 2) (int 1)) fun A=>N [a 0,a 1,A] x)) (ad (aI r undef (.bool false)) fun s=>aE s (ch [(.bool false),a 1] p) (ad (ar P .add 3 true (a 2) (int 1)) fun t=>N [a 0,a 1,t] p))) (ad (aI i undef (.bool false)) fun j=>ad (aI j undef (.bool false)) fun k=>aE k (ch [(.bool false),a 1] h) (ad (ar P .add 3 true (a 2) (int 1)) fun m=>N [a 0,a 1,m] h)))
theorem aES:LpI P 162 VL 48 ajM:=.mk
def ajN:V2:=fun t0 a8 H aa=>cG (dr t0) H fun a b=>ay P 10 [] b fun c d=>ad (hx .not c) fun e=>aE e (aa (.bool false) d) (e5 (fun f=>af (bZ 16 a d) fun g h=>ay P 11 [g] h fun i j=>aE i (ad (aI i (.bool true) undef) fun k=>aE k (aa (.bool true) j) (f [a8,a,(.bool false)] j)) (af (bO a8 j) fun k m=>ad (ar P .gtr 3 true k (int 150)) fun n=>ad (aI i (.bool true) n) fun o=>aE o (aa (.bool true) m) (f [a8,a,(.bool false)] m))) (fun f g=>af (bZ 16 (f 1) g) fun h i=>ay P 12 [h] i fun j k=>e5 (fun m=>ad (ar P .eql 34 true j (.pointer none)) fun n=>aE n (ad (aI n (.bool true) undef) fun o=>m [f 0,f 2,j,o] k) (aH j 3 fun p=>af (aw p k) fun q r=>ad (ar P .eql 39 true q (.pointer none)) fun s=>ad (aI n (.bool true) s) fun t=>m [f 0,f 2,j,t] r)) (fun m n=>aE (m 3) (ad (ar P .neq 34 true (m 2) (.pointer none)) fun o=>aE o (aH (m 2) 4 fun q=>af (aw q n) fun r s=>ad (ar P .neq 40 true r (int 0)) fun t=>ad (aI o t (.bool false)) fun u=>aa u s) (ad (aI o undef (.bool false)) fun p=>aa p n)) (af (bO (m 0) n) fun o p=>eJ P true 162 VK 48 [m 1,m 2,m 0,o,(int 0)] p (fun id q r=>cond (Nat.beq id 0) (eJ P true 162 VL 48 [q 0,q 1,(int 0)] r (fun id s t=>cond (Nat.beq id 3) (aH (s 1) 3 fun v=>af (aw v t) fun w x=>ay P 15 [w] x fun y z=>ad (ar P .neq 3 true y (int 1)) fun A=>aa A z) (False)) (fun s t=>aa (s 0) t)) (False)) (fun q r=>aa (q 0) r)))))
theorem aET:W2 P 5 ajN:=Wm2
end
end J
namespace J
open Go Go.Ab
namespace V
variable{n c4 s:Nat}{p:bX}{ct:Int}
theorem ld_fs{n:Nat}{l:dE}{bw:List (Int×List Int)}{cA:List ib}{aR:gU}:(hj n l bw cA aR).2.2.2.2.bb.length<=aR.bb.length:=by
 have aU:∀ {ff:List UInt8} {a hr:Int},(aR.mx ff a hr).2.bb.length<=aR.bb.length:=by
  intro ff a hr;unfold gU.mx;split
  simp_all
  grind[gU.next]
 unfold hj
 grind
theorem did_nt{i:Nat}{n7 cw:Bool}{e:Int}:(p.hG i n7 e cw).2.aR=p.aR:=by
 unfold bX.hG;simp only;split;show(if n7 then _ else _:bX).aR=_;grind;split;show(if n7 then _ else _:bX).aR=_;grind
 grind
theorem step_fs:(p.step ct).2.aR.bb.length<=p.aR.bb.length:=by
 unfold bX.step;split
 simp_all
 split;unfold bX.uR;split<;>exact Nat.le_refl _;split;rw[yv,did_nt];exact ld_fs;split;rw[zS,did_nt];exact Nat.le_refl _;split;rw[zT,did_nt];exact Nat.le_refl _
 simp_all
theorem Cn.zero(h:Cn n c4 s p):Cn n c4 0 p:=⟨zero_le _,fun h1=>⟨(h.lv h1).1,by have:=(h.lv h1).2;omega⟩⟩
theorem Cn.more{bb:List lQ}(h:Cn n c4 s p):Cn n c4 s {p with aR:={p.aR with bb:=bb}}:=⟨h.dO,fun h1=>⟨⟨Og (h.lv h1).1.lv (d:=p.d) (st:=p.st) (fg:=p.fg) (aR:={p.aR with bb:=bb}),(h.lv h1).1.oX,(h.lv h1).1.pq⟩,(h.lv h1).2⟩⟩
theorem Cn.p2{a:Int}(h:Cn n c4 s p):Cn n c4 s (p.p2 a):=by unfold bX.p2;split;exact⟨h.dO,fun h1=>⟨⟨Og (h.lv h1).1.lv (d:=p.d.p2 a) (st:=p.st) (fg:=p.fg) (aR:=p.aR),(h.lv h1).1.oX,(h.lv h1).1.pq⟩,(h.lv h1).2⟩⟩;exact h
theorem tick_nt{a:Int}:(p.p2 a).aR=p.aR:=by grind[bX.p2]
end V
variable[cu:b0]
variable{H:au}{S F X R:List (Nat×ax)}{aa:VH}{q:fA}{p dx:bX}{N i o s:Nat}{v fz:Value}{gs:List lQ}
theorem cz.more(h:cz H S F q p N)(ao:h4 S fz gs)(ak:∀f∈gs,f.v<256)(aD:p.aR.bb.length+gs.length<=1000000)(ah:∀ab cp X,q.et cp->cz ab (S++X) F cp {p with aR:={p.aR with bb:=p.aR.bb++gs}} N->aa (.tuple [].toArray) ab):ay P 25 [ai q.bz 0,fz] H aa:=by
 obtain⟨aX,R,U,hO⟩:=h;apply aqY;unfold aaH;have ez:aj H (S++((((F++R)++[(q.c,(⟨q.aF p,true⟩:ax)),(q.b8,⟨fs p.w.s q.L.cO,true⟩),(q.w,⟨q.W.jv p.w,true⟩),(q.cn,lO p.d.fG p.d.kY q.eb p.d.eR.length),(q.eb,lP p.d.eR),(q.db,⟨mX q p.w.cy p.st p.fg,true⟩)])++dJ q.L p.w.m)++[(q.bz,⟨fD q.ca q.fv p.aR.dk,true⟩)])):=
  hO.fj (gL fun rl=>by simp only[nX,countP_append,countP_cons,countP_nil];omega)
 generalize hF0:(((F++R)++[(q.c,(⟨q.aF p,true⟩:ax)),(q.b8,⟨fs p.w.s q.L.cO,true⟩),(q.w,⟨q.W.jv p.w,true⟩),(q.cn,lO p.d.fG p.d.kY q.eb p.d.eR.length),(q.eb,lP p.d.eR),(q.db,⟨mX q p.w.cy p.st p.fg,true⟩)])++dJ q.L p.w.m)=Oh at ez;have wH:(S++(Oh++[(q.bz,(⟨fD q.ca q.fv p.aR.dk,true⟩:ax))]))[S.length+(Oh.length+0)]?=some (q.bz,⟨fD q.ca q.fv p.aR.dk,true⟩):=az (az rfl);refine aV (aY ez _ wH (v:=q.fv) rfl ?_);have key:∀aQ,((aQ=bu/\p.aR.bb=[])\/((∃dx o,aQ=aC dx o p.aR.bb.length 7)/\h4 S aQ p.aR.bb))->af (gw 3 24 aQ fz H) fun g h=>ad (pG (ai q.bz 0)) fun i=>ad (bG 1 i) fun j=>af (bx 1 j g h) fun k m=>aa (.tuple [].toArray) m:=by
  intro aQ jT;refine ah1 ez jT ao aD ?_;intro ab ec X hO jF;refine aV ?_;have dF:aj ab (((S++Oh)++X)++[(q.bz,⟨fD q.ca q.fv p.aR.dk,true⟩)]):=hO.fj (gL fun rl=>by grind);refine fR dF (_+0) (az rfl) jF.fh (show 1<3 by omega) (bE:=fD q.ca ec p.aR.dk) rfl ?_;intro cJ hO
  replace hO:=hO.cD
  replace hO:aj cJ (((S++Oh)++X)++[(q.bz,⟨fD q.ca ec p.aR.dk,true⟩)]):=hO
  have hRa:=aX.app (X:=X);have uy:∀f∈p.aR.bb++gs,f.v<256:=by
   intro f hf;rcases mem_append.1 hf with h|h
   exact aX.aR.zQ f h
   simp_all
  have qY:p3 (S++X) q.ca ec {p.aR with bb:=p.aR.bb++gs}:=⟨hRa.aR.of,jF,uy⟩;refine ah cJ {q with fv:=ec} X ⟨rfl,rfl,rfl,rfl,.fC⟩ ⟨⟨hRa.tO,hRa.xx,hRa.xy,hRa.xz,hRa.uV,hRa.s,hRa.m,hRa.own,hRa.kV,qY,hRa.dk,hRa.d1,hRa.d2,hRa.d3,fun h1=>⟨(hRa.eO h1).aF,⟨(hRa.eO h1).cB.a,(hRa.eO h1).cB.b,(hRa.eO h1).cB.eE,qY,(hRa.eO h1).cB.ok⟩,(hRa.eO h1).wr,(hRa.eO h1).sn,(hRa.eO h1).cT⟩⟩,R,U,?_⟩;show aj cJ (((S++X)++(F++R))++([(q.c,(⟨q.aF p,true⟩:ax)),(q.b8,⟨fs p.w.s q.L.cO,true⟩),(q.w,⟨q.W.jv p.w,true⟩),(q.bz,⟨fD q.ca ec p.aR.dk,true⟩),(q.cn,lO p.d.fG p.d.kY q.eb p.d.eR.length),(q.eb,lP p.d.eR),(q.db,⟨mX q p.w.cy p.st p.fg,true⟩)]++dJ q.L p.w.m));rw[<- hF0]at hO;exact hO.fj (gL fun rl=>by simp only[countP_append,countP_cons,countP_nil];omega)
 exact aBp ez.left aX.aR.bb key
end J
namespace J
open Go Go.Ab
variable{H:au}{S F X R:List (Nat×ax)}{q q2:fA}{p bp:bX}{i cK n c4:Nat}{aq:List Value}{v:Value}
theorem cvW{x:Int}:∃m:Nat,iw .u64 (int x) H=some (bT .u64 m,H):=by
 refine⟨(iN .u64 x).toNat,?_⟩;show some (Value.int .u64 (iN .u64 x),H)=some (Value.int .u64 (((iN .u64 x).toNat:Nat):Int),H);have:0<=iN .u64 x:=by show 0<=rz 18446744073709551616 x;unfold rz;split<;>exact Int.natCast_nonneg _
 grind
variable[cu:b0]
theorem lives_L0{eh va:Value}{acts:List sk}{bC:LX}{ch:LN}(oB:n<=20)(hA:RdAcP S va acts)(aU:acts.length<=150)(an:F[i]?=some (cK,⟨aq,true⟩))(h1v:aq[1]?=some (ai q.bz 0))(hv:aq[3]?=some (ai q.db 0))(h1:V.Cn n c4 0 p)(qy:p.aR.bb.length<=60)(h:cz H S F q p 30)
  (U:∀ab,ch [.bool true,ai cK 0] ab) (ah:∀ab X cp cI,q.et cp->V.Cn n c4 0 cI->cz ab (S++X) F cp cI 1000->bC 0 [eh,ai cK 0] ab):
  eJ P true 162 VK 48 [eh,ai cK 0,va,int acts.length,int 0] H bC ch:=by
 refine aER (fun k aA ab=>∃(y:Nat) (X:List (Nat×ax)) (cp:fA) (cI:bX),y<=acts.length/\k=acts.length-y/\aA=[eh,ai cK 0,va,int acts.length,int y]/\q.et cp/\V.Cn n c4 0 cI/\cI.aR.bb.length<=60+10*y/\cz ab (S++X) F cp cI (30+4*y)) _ _ ?_ acts.length _ _ ⟨0,[],q,p,zero_le _,rfl,rfl,.fC,h1,by omega,by rw[append_nil];exact h⟩;rintro k aA H ⟨y,X,cp,cI,ba,rfl,rfl,al,h1,qy,h⟩;unfold ajL
 try simp only[cj,ck]
 refine ag fr (bF (fun dw=>?_) (fun dw=>?_));have gR:y<acts.length:=by omega
 have la:(ar P .add 3 true).f (int y) (int 1)=some (int ((y+1:Nat):Int)):=by grind[jg]
 obtain⟨s9,q9,uL,MK,Vo,fv,rfl,uM,pb,oO,uy⟩:=hA.get gR;refine ag (jD (by omega) (by omega)) ?_;rw[Int.toNat_natCast];obtain⟨aX,R,gD,hO⟩:=h;refine iH hO uL (aL (aL (aL uM))) pb rfl (by omega) ?_;have h:cz H (S++X) F cp cI (30+4*y):=⟨aX,R,gD,hO⟩;refine h.tmp (fv:=fv) (a:=acts[y]) oO.app ?_;intro e H u h;generalize acts[y]=gg at*;have he:(F++[(e,(⟨p6 gg fv,true⟩:ax))])[F.length+0]?=some (e,⟨p6 gg fv,true⟩):=az rfl;have fu:(F++[(e,(⟨p6 gg fv,true⟩:ax))])[i]?=some (cK,⟨aq,true⟩):=aL an;refine e3 (fun aA ab=>aA=[eh,ai cK 0,ai e 0,aC s9 0 acts.length q9,int acts.length,int y]/\∃(X:List (Nat×ax)) (cp:fA) (cI:bX),q.et cp/\V.Cn n c4 0 cI/\cI.aR.bb.length<=60+10*(y+1)/\cz ab (S++X) (F++[(e,⟨p6 gg fv,true⟩)]) cp cI (30+4*y+1)) ?_ ?_;refine ag b7 (h.fM he (v:=int gg.k) rfl (ag e2 (bF (fun h2=>?_) (fun h2=>?_))));refine aV (h.fM fu (by omega) (ag b7 (h.fM he (v:=int gg.n) rfl ?_)));rw[<- al.db];refine Uy h ?_;intro H h;exact⟨rfl,X,cp,_,al,h1.p2,by rw[V.tick_nt];omega,h.mono (by omega)⟩;refine ag e2 (bF (fun h3=>?_) (fun h3=>?_));refine ag b7 (h.fM he (v:=fv) rfl (bW oO.bO (ag kS (bF (fun aG=>?_) (fun aG=>?_)))));exact U _;refine aV (h.fM fu (by omega) (ag b7 (h.fM he (v:=fv) rfl ?_)));rw[<- al.bz];refine h.more oO.app uy (by omega) ?_;intro H q2 lb hl h;rw[append_assoc]at h;exact⟨rfl,X++lb,q2,_,al.trans hl,h1.more,by grind,h.mono (by omega)⟩
 refine aV (h.fM fu (by omega) (ag b7 (h.fM he (v:=int gg.n) rfl ?_)));rw[<- al.db];have aB:=(h1.step (ct:=gg.n) oB).zero;have hf:=V.step_fs (p:=cI) (ct:=gg.n);refine sW (by omega) h ?_;intro H q2 lb hl h;rw[append_assoc]at h;exact⟨rfl,X++lb,q2,(cI.step gg.n).2,al.trans hl,aB,by omega,h⟩;rintro aA H ⟨rfl,X,cp,cI,al,h1,qy,h⟩
 try simp only[cj,ck]
 refine e3 (fun aA ab=>∃Iz:Bool,aA=[eh,ai cK 0,ai e 0,aC s9 0 acts.length q9,int acts.length,int y,.bool Iz]/\ab=H/\(Iz=true->cI.st=1)) ?_ ?_;refine ag b7 (h.fM he (v:=int gg.k) rfl (ag e2 (bF (fun h2=>?_) (fun h2=>?_))));refine aV (h.fM fu (by omega) ?_);rw[<- al.db];exact uW h (ag e2 (ag (gA h2) (⟨decide (cI.st=1),rfl,rfl,fun h=>of_decide_eq_true h⟩)));exact ag (gP h2) (⟨false,rfl,rfl,fun h=>by cases h⟩);rintro aA ab ⟨Iz,rfl,rfl,mH⟩
 try simp only[cj,ck]
 have dy:∀ {ab:au} {BL:List (Nat×ax)} {q2:fA} {bp:bX},q.et q2->V.Cn n c4 0 bp->bp.aR.bb.length<=60+10*(y+1)->cz ab (S++BL) (F++[(e,⟨p6 gg fv,true⟩)]) q2 bp (30+4*(y+1))->∃e6,e6<acts.length-y/\∃(eW:Nat) (X:List (Nat×ax)) (cp:fA) (cI:bX),eW<=acts.length/\e6=acts.length-eW/\[eh,ai cK 0,aC s9 0 acts.length q9,int acts.length,int ((y+1:Nat):Int)]=[eh,ai cK 0,aC s9 0 acts.length q9,int acts.length,int eW]/\q.et cp/\V.Cn n c4 0 cI/\cI.aR.bb.length<=60+10*eW/\cz ab (S++X) F cp cI (30+4*eW):=
  fun cU cR a3 a4=>⟨_,by omega,y+1,_,_,_,gR,rfl,rfl,cU,cR,a3,a4.sub (sublist_append_left _ _)⟩
 refine qj (fun ak=>?_) (fun ak=>?_);have ev:=mH ak;obtain⟨AY,_⟩:=h1.lv ev;refine ag b7 (h.fM he (v:=int gg.n) rfl ?_);obtain⟨m,hm⟩:=cvW (H:=ab) (x:=gg.n);refine bW hm (ag (x8 (k:=.u64) (b:=3) (by decide)) (bW (w3 (by omega)) ?_));have hf3:m%3<3:=mod_lt _ (by decide);generalize m%3=f at*;refine aV (h.fM fu (by omega) ?_);rw[<- al.db];have dg:=(h1.step (ct:=(f:Int)) oB).zero;have gY:=V.step_fs (p:=cI) (ct:=(f:Int));refine sW (by omega) h ?_;intro H q2 lb hl h;rw[append_assoc]at h;cases a7:(cI.step (f:Int)).1 with
 | true=>exact ag ix (dP rfl (ag km (ag km (dP rfl (ag la (dy (al.trans hl) dg (by omega) (h.mono (by omega))))))))
 | false=>
  obtain⟨dZ,_,mg⟩:=(V.Aw ev AY.lv a7).lv AY;have sm1:=V.Aw ev AY.lv a7;have Mn:=mg.trans ev;refine ag ix (eT rfl (aV (h.fM fu (by omega) (ag (yq (b:=1) (by omega)) (ag (uN (b:=3) (by decide)) ?_)))));have al:=al.trans hl;rw[<- al.db];have cr:=(dg.step (ct:=(((f+1)%3:Nat):Int)) oB).zero;have gZ:=V.step_fs (p:=(cI.step (f:Int)).2) (ct:=(((f+1)%3:Nat):Int));refine sW (by omega) h ?_;intro H cS DQ vj h;rw[append_assoc]at h;cases bt:((cI.step (f:Int)).2.step (((f+1)%3:Nat):Int)).1 with
  | true=>exact ag ix (ag (show _=some (.bool false)from rfl) (dP rfl (ag km (dP rfl (ag la (dy (al.trans vj) cr (by omega) (h.mono (by omega))))))))
  | false=>
   have sm2:=sm1.trans (V.Aw Mn dZ.lv bt);have Hk:=bt;rw[sm1.fst ev (by omega)]at Hk;refine ag ix (ag (show _=some (.bool true)from rfl) (eT rfl (aV (h.fM fu (by omega) (ag (yq (b:=2) (by omega)) (ag (uN (b:=3) (by decide)) ?_))))));have al:=al.trans vj;rw[<- al.db];have fJ:=(cr.step (ct:=(((f+2)%3:Nat):Int)) oB).zero;have f3:=V.step_fs (p:=((cI.step (f:Int)).2.step (((f+1)%3:Nat):Int)).2) (ct:=(((f+2)%3:Nat):Int));refine sW (by omega) h ?_;intro H eI yE CX h;rw[append_assoc]at h;cases ei:(((cI.step (f:Int)).2.step (((f+1)%3:Nat):Int)).2.step (((f+2)%3:Nat):Int)).1 with
   | true=>exact ag ix (ag (show _=some (.bool false)from rfl) (dP rfl (ag la (dy (al.trans CX) fJ (by omega) (h.mono (by omega))))))
   | false=>
    exfalso;have e3':=ei;rw[sm2.fst ev (by omega)]at e3';have hall:∀w:Nat,w<3->(cI.step (w:Int)).1=false:=by grind
    grind[V.IA]
 exact ag la (dy al h1 qy (h.mono (by omega)));exact ah H X cp cI al h1 (h.mono (by omega))
theorem lives_L1{eh:Value}{bC:LX}{ch:LN}(oB:n<=20)(an:F[i]?=some (cK,⟨aq,true⟩))(hv:aq[3]?=some (ai q.db 0))(h1:V.Cn n c4 0 p)(sQ:c4<4000)(h:cz H S F q p 1000)
  (ah:∀ab X cp cI,q.et cp->cI.st≠1->cz ab (S++X) F cp cI 14000->bC 3 [eh,ai cK 0] ab):
  eJ P true 162 VL 48 [eh,ai cK 0,int 0] H bC ch:=by
 refine aES (fun k aA ab=>∃(y:Nat) (X:List (Nat×ax)) (cp:fA) (cI:bX),y<=4000/\k=4000-y/\aA=[eh,ai cK 0,int y]/\q.et cp/\(cI.st=1->V.Cn n c4 y cI)/\cz ab (S++X) F cp cI (1000+3*y)) _ _ ?_ 4000 _ _ ⟨0,[],q,p,by omega,rfl,rfl,.fC,fun _=>h1,by rw[append_nil];exact h⟩;rintro k aA H ⟨y,X,cp,cI,ba,rfl,rfl,al,h1,h⟩;unfold ajM;have fin0:cI.st≠1->bC 3 [eh,ai cK 0] H:=fun ev=>ah H X cp cI al ev (h.mono (by omega))
 refine e3 (fun aA ab=>aA=[eh,ai cK 0,int y]/\ab=H/\y<4000/\cI.st=1) ?_ ?_
 try simp only[cj,ck]
 refine ag fr (bF (fun h2=>?_) (fun h2=>?_));refine aV (h.fM an (by omega) ?_);rw[<- al.db];refine uW h (ag e2 (ag (gA h2) (bF (fun h3=>?_) (fun h3=>?_))))
 grind
 exact fin0 h3;exact ag (gP h2) (dP rfl (fin0 fun ev=>by have:=((h1 ev).lv ev).2;omega));rintro aA ab ⟨rfl,rfl,dw,ev⟩
 try simp only[cj,ck]
 have h1:=h1 ev;obtain⟨AY,_⟩:=h1.lv ev;have la:(ar P .add 3 true).f (int y) (int 1)=some (int ((y+1:Nat):Int)):=by grind[jg]
 have dy:∀ {ab:au} {BL:List (Nat×ax)} {q2:fA} {bp:bX},q.et q2->V.Cn n c4 (y+1) bp->cz ab (S++BL) F q2 bp (1000+3*(y+1))->∃e6,e6<4000-y/\∃(eW:Nat) (X:List (Nat×ax)) (cp:fA) (cI:bX),eW<=4000/\e6=4000-eW/\[eh,ai cK 0,int ((y+1:Nat):Int)]=[eh,ai cK 0,int eW]/\q.et cp/\(cI.st=1->V.Cn n c4 eW cI)/\cz ab (S++X) F cp cI (1000+3*eW):=
  fun cU cR a4=>⟨_,by omega,y+1,_,_,_,dw,rfl,rfl,cU,fun _=>cR,a4⟩
 refine aV (h.fM an (by omega) ?_);rw[<- al.db];have dg:=h1.step (ct:=0) oB;refine sW (by omega) h ?_;intro H q2 lb hl h;rw[append_assoc]at h;cases a7:(cI.step 0).1 with
 | true=>rw[a7,if_pos rfl]at dg;exact ag ix (dP rfl (ag km (ag km (dP rfl (ag la (dy (al.trans hl) dg (h.mono (by omega))))))))
 | false=>
  rw[a7,if_neg (by simp)]at dg;have sm1:=V.Aw ev AY.lv a7;obtain⟨dZ,_,mg⟩:=sm1.lv AY;have Mn:=mg.trans ev;refine ag ix (eT rfl (aV (h.fM an (by omega) ?_)));have al:=al.trans hl;rw[<- al.db];have cr:=dg.step (ct:=1) oB;refine sW (by omega) h ?_;intro H cS DQ vj h;rw[append_assoc]at h;cases bt:((cI.step 0).2.step 1).1 with
  | true=>rw[bt,if_pos rfl]at cr;exact ag ix (ag (show _=some (.bool false)from rfl) (dP rfl (ag km (dP rfl (ag la (dy (al.trans vj) cr (h.mono (by omega))))))))
  | false=>
   rw[bt,if_neg (by simp)]at cr;have sm2:=sm1.trans (V.Aw Mn dZ.lv bt);have Hk:=bt;rw[sm1.fst ev (.inr (.inl rfl))]at Hk;refine ag ix (ag (show _=some (.bool true)from rfl) (eT rfl (aV (h.fM an (by omega) ?_))));have al:=al.trans vj;rw[<- al.db];have fJ:=cr.step (ct:=2) oB;refine sW (by omega) h ?_;intro H eI yE CX h;rw[append_assoc]at h;cases ei:(((cI.step 0).2.step 1).2.step 2).1 with
   | true=>rw[ei,if_pos rfl]at fJ;exact ag ix (ag (show _=some (.bool false)from rfl) (dP rfl (ag la (dy (al.trans CX) fJ (h.mono (by omega))))))
   | false=>
    exfalso;have e3':=ei;rw[sm2.fst ev (.inr (.inr rfl))]at e3'
    grind[V.IA]
end J
namespace J
open Go Go.Ab
variable{H:au}{S X ae:List (Nat×ax)}{aa:VH}{q bP q2:fA}{dx bp:bX}{cK n c4 s:Nat}{v:Value}
theorem plives_main[cu:b0]{w:ew}{wv ov fv kv va:Value}{acts:List sk}(aM:pB ae w wv ov fv kv)(hA:RdAcP ae va acts)(hO:aj H ae)(hZ:∀H,aa (.bool true) H):ay P 5 [agg (fI w wv ov fv kv),va] H aa:=by
 apply aET;unfold ajN;rw[sa];refine dH hO ?_;intro dM H hO;refine NY hO ?_;intro zW H X _ hO;refine ag ix (dP rfl ?_);have rK:pB (ae++X) w wv ov fv kv:=aM.app;have qZ:RdAcP (ae++X) va acts:=hA.app;generalize ae++X=S at*;refine e3 (fun aA ab=>aA=[va,ai dM 0,.bool false]/\w.ko/\acts.length<=150/\aj ab (S++[(dM,⟨fI w wv ov fv kv,true⟩)])) ?_ ?_;refine gh hO (S.length+0) (az rfl) (n:=16) rfl (by omega) (UM rK hO (fun ab=>?_) (fun hf ab hO=>?_));exact eT rfl (ag j9 (eT rfl (hZ _)));refine dP rfl (bW qZ.bO (ag kS (ag km (bF (fun h1=>?_) (fun h1=>?_)))));exact hZ _;exact⟨rfl,hf,by omega,hO⟩;rintro aA H ⟨rfl,hf,hm,hO⟩
 try simp only[cj,ck]
 refine gh hO (S.length+0) (az rfl) (n:=16) rfl (by omega) (Gm hf rK hO ?_ ?_);intro aJ tR H cK cO bz b8 G hO;refine e3 (fun aA ab=>aA=[va,.bool false,ai cK 0,.bool true]/\ab=H) ?_ ?_;exact ag (zZ _) (dP rfl (aV (aY hO (G.length+0) (az rfl) (v:=.pointer none) rfl (ag Vj (ag km (⟨rfl,rfl⟩))))));rintro aA ab ⟨rfl,rfl⟩
 try simp only[cj,ck]
 refine eT rfl (ag (Vl _) (eT rfl (aV (aY hO (G.length+0) (az rfl) (v:=int (oz.gS w.cb.iK w.cb.aC).2.1) rfl (ag ij (ag j9 ?_))))));rw[decide_eq_true aJ];exact hZ _;intro aJ tR H cK q lb _ _ hg;have Fc:=hf.s;obtain⟨n,aU⟩:=Int.eq_ofNat_of_zero_le (show 0<=w.lR by omega);have aU:w.lR=(n:Int):=aU;have oB:n<=20:=by omega
 have an:([(dM,(⟨fI w wv ov fv kv,true⟩:ax))]++[(cK,(⟨ku q,true⟩:ax))])[[(dM,(⟨fI w wv ov fv kv,true⟩:ax))].length+0]?=some (cK,⟨ku q,true⟩):=az rfl;refine e3 (fun aA ab=>aA=[va,.bool false,ai cK 0,.bool false]/\ab=H) ?_ ?_;exact ag (zZ _) (dP rfl (aV (hg.cB (nc .fC) (ag (Gs _) (ag km (⟨rfl,rfl⟩))))));rintro aA ab ⟨rfl,rfl⟩
 try simp only[cj,ck]
 refine dP rfl ?_;obtain⟨rF,ht0,hst0⟩:=V.bd0 aJ aU;have U:=Bz w.fl.eu;have j7:(max 0 (min w.fl.iS 100)).toNat*(2*eK w.fl.eu+3)<=100*35:=Nat.mul_le_mul (by omega) (by omega);have sQ:V.M0 n w.fl.iS w.fl.eu<4000:=by grind[V.M0]
 have hcn:V.Cn n (V.M0 n w.fl.iS w.fl.eu) 0 (kg w):=⟨zero_le _,fun _=>⟨rF,by omega⟩⟩;have qy:(kg w).aR.bb.length<=60:=hf.bb;generalize V.M0 n w.fl.iS w.fl.eu=c4 at*;generalize kg w=Vq at hg hcn qy;refine bW qZ.bO (lives_L0 oB qZ.app hm an (Vk .fC) (nc .fC) hcn qy hg (fun ab=>hZ _) ?_);intro H DQ bP dx al hcn hg;show cond (Nat.beq 0 0) _ _;rw[beq_refl]
 try simp only[cj,ck]
 refine lives_L1 oB an (nc al) hcn sQ hg ?_;intro H yE q2 bp hl ev hg;have al:=al.trans hl;show cond (Nat.beq 3 3) _ _;rw[beq_refl];show ad (pG (ai cK 0)) _;refine aV (hg.fM an (nc al) (uW hg (ag ij ?_)));rw[decide_eq_true ev];exact hZ _
end J
