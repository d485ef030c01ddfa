/- texts of the nf, fh behind the mA -/
import Derived.Test.YtifflnhooaophaaGreatDoorVA
set_option linter.unusedVariables false
set_option linter.unusedSimpArgs false
set_option linter.unusedSectionVars false
set_option maxHeartbeats 16000000
set_option maxRecDepth 100000
open List Nat
namespace J
open Go Go.Ab
noncomputable section
noncomputable abbrev Vs:Code:=hb P 4 0
noncomputable abbrev Vt:Code:=hb P 4 1
noncomputable abbrev Vu:Code:=hb P 4 2
def aju:LF:=fun l H N bC ch=>ad (ar P .lss 3 false (l 6) (l 5)) fun a=>aE a (ad (hz 1 (l 4) (l 6)) fun b=>af (aw b H) fun c d=>ad (ar P .lss 3 true c (int 0)) fun e=>aE e (ad (bG 4 (l 3)) fun f=>af (aw f d) fun g h=>ad (dq P 61 [(0,(int 1))]) fun i=>af (eV P 24 1 [(0,i)] h) fun j k=>af (gw 3 24 g j k) fun m n=>ad (bG 4 (l 3)) fun o=>af (bx 1 o m n) fun p q=>ad (ar P .add 3 true (l 6) (int 1)) fun r=>N [l 0,l 1,l 2,l 3,l 4,l 5,r] q) (ad (bG 4 (l 3)) fun f=>af (aw f d) fun g h=>ad (dq P 61 [(0,(int 3)),(1,c)]) fun i=>af (eV P 24 1 [(0,i)] h) fun j k=>af (gw 3 24 g j k) fun m n=>ad (bG 4 (l 3)) fun o=>af (bx 1 o m n) fun p q=>ad (ar P .add 3 true (l 6) (int 1)) fun r=>N [l 0,l 1,l 2,l 3,l 4,l 5,r] q)) (bC 0 [l 0,l 1,l 2,l 3] H)
theorem aDQ:LpI P 251 Vs 166 aju:=.mk
def ajv:LF:=fun l H N bC ch=>ad (ar P .lss 3 false (l 7) (l 6)) fun a=>aE a (ad (hz 1 (l 5) (l 7)) fun b=>af (aw b H) fun c d=>aH (l 4) 3 fun f=>af (aw f d) fun g h=>af (iw .i64 c h) fun i j=>ad (ar P .rem 3 true i (int 4)) fun k=>ay P 14 [g,k] j fun m n=>ad (ar P .add 3 true (l 7) (int 1)) fun o=>N [l 0,l 1,l 2,l 3,l 4,l 5,l 6,o] n) (bC 2 [l 0,l 1,l 2,l 3,l 4] H)
theorem aDR:LpI P 251 Vt 1190 ajv:=.mk
def ajw:LF:=fun l H N bC ch=>e5 (fun a=>ad (ar P .lss 3 true (l 5) (int 4000)) fun b=>aE b (aH (l 4) 3 fun d=>af (aw d H) fun e f=>ay P 15 [e] f fun g h=>ad (ar P .eql 3 true g (int 1)) fun i=>ad (aI b i (.bool false)) fun j=>aE j (a [l 0,l 1,l 2,l 3,l 4,l 5] h) (bC 4 [l 0,l 1,l 2,l 3,l 4] h)) (ad (aI b undef (.bool false)) fun c=>aE c (a [l 0,l 1,l 2,l 3,l 4,l 5] H) (bC 4 [l 0,l 1,l 2,l 3,l 4] H))) (fun a b=>aH (a 4) 3 fun d=>af (aw d b) fun e f=>ad (ar P .rem 3 true (a 5) (int 3)) fun g=>ay P 14 [e,g] f fun h i=>ad (ar P .add 3 true (a 5) (int 1)) fun j=>N [a 0,a 1,a 2,a 3,a 4,j] i)
theorem aDS:LpI P 251 Vu 1190 ajw:=.mk
def ajx:V1:=fun t0 H aa=>cG (dr t0) H fun a b=>ay P 10 [] b fun c d=>ad (hx .not c) fun e=>aE e (aa (.bool false) d) (e5 (fun f=>ad (bG 0 a) fun g=>af (aw g d) fun h i=>af (bO h i) fun j k=>ad (ar P .lss 3 true j (int 1)) fun m=>aE m (ad (aI m (.bool true) undef) fun n=>ad (aI n (.bool true) undef) fun o=>ad (aI o (.bool true) undef) fun p=>ad (aI p (.bool true) undef) fun q=>aE q (aa (.bool true) k) (f [a,(.bool false)] k)) (ad (bG 0 a) fun n=>af (aw n k) fun o p=>af (bO o p) fun q r=>ad (ar P .gtr 3 true q (int 1000)) fun s=>ad (aI m (.bool true) s) fun t=>aE t (ad (aI t (.bool true) undef) fun u=>ad (aI u (.bool true) undef) fun v=>ad (aI v (.bool true) undef) fun w=>aE w (aa (.bool true) r) (f [a,(.bool false)] r)) (ad (bG 6 a) fun u=>af (aw u r) fun v w=>af (bO v w) fun x y=>ad (bG 3 a) fun z=>af (aw z y) fun A B=>af (iw .i64 A B) fun C D=>ad (ar P .rem 3 true C (int 20)) fun dm=>ad (ar P .gtr 3 false x dm) fun F=>ad (aI t (.bool true) F) fun G=>aE G (ad (aI G (.bool true) undef) fun I=>ad (aI I (.bool true) undef) fun J=>aE J (aa (.bool true) D) (f [a,(.bool false)] D)) (ad (bG 7 a) fun I=>af (aw I D) fun J L=>af (bO J L) fun c4 dj=>ad (ar P .gtr 3 true c4 (int 300)) fun Q=>ad (aI G (.bool true) Q) fun R=>aE R (ad (aI R (.bool true) undef) fun S=>aE S (aa (.bool true) dj) (f [a,(.bool false)] dj)) (ad (bG 8 a) fun S=>af (aw S dj) fun T eH=>af (bO T eH) fun V W=>ad (ar P .gtr 3 true V (int 30)) fun X=>ad (aI R (.bool true) X) fun hd=>aE hd (aa (.bool true) W) (f [a,(.bool false)] W)))))) (fun f g=>ad (bG 4 (f 0)) fun h=>af (aw h g) fun i j=>af (iw .u64 i j) fun k m=>ad (ar P .add 27 true k (.int .u64 1)) fun n=>af (eV P 22 3 [(0,(.int .u8 107)),(1,(.int .u8 101)),(2,(.int .u8 121))] m) fun o p=>af (u3 o p) fun q r=>ad (bG 1 (f 0)) fun s=>af (aw s r) fun t u=>af (iw .i64 t u) fun v w=>ad (ar P .rem 3 true v (int 4)) fun x=>ad (ar P .add 3 true (int 1) x) fun y=>ad (ar P .mul 3 true (int 64) y) fun z=>ad (bG 0 (f 0)) fun A=>af (aw A w) fun B C=>ay P 16 [q,(.string ⟨#[99,111,114,101]⟩),n,z,B] C fun D dm=>ad (eD 0 D) fun F=>ad (eD 1 D) fun G=>ad (eD 2 D) fun I=>cG (df P 55) dm fun J L=>af (bx 37 J G L) fun c4 dj=>ad (hx .not I) fun Q=>aE Q (aa (.bool true) dj) (ad (bG 0 (f 0)) fun R=>af (aw R dj) fun S T=>af (bO S T) fun eH V=>ad (ar P .add 3 true eH (int 63)) fun W=>ad (ar P .quo 3 true W (int 64)) fun X=>ad (bG 8 (f 0)) fun hd=>af (aw hd V) fun hp a0=>ad (dq P 59 [(0,(.string ⟨#[99,111,114,101]⟩)),(1,F)]) fun cU=>af (eV P 23 1 [(0,cU)] a0) fun cR a3=>af (eV P 22 3 [(0,(.int .u8 107)),(1,(.int .u8 101)),(2,(.int .u8 121))] a3) fun a4 a5=>af (u3 a4 a5) fun kp ln=>ad (bG 3 (f 0)) fun mR=>af (aw mR ln) fun a9 eh=>af (iw .i64 a9 eh) fun b1 b2=>ad (ar P .rem 3 true b1 (int 20)) fun gE=>ad (bG 2 (f 0)) fun kJ=>af (aw kJ b2) fun lX og=>af (iw .i64 lX og) fun sI tv=>ad (dq P 26 [(0,kp),(1,(.string ⟨#[67,111,114,101]⟩)),(2,gE),(3,sI),(4,(int 5))]) fun w8=>ad (bG 5 (f 0)) fun n5=>af (aw n5 tv) fun dg cr=>af (iw .u64 dg cr) fun fJ iy=>af (fZ iy (oF [fJ,n])) fun j0 kB=>ad (dq P 29 [(0,(int 4)),(2,(.string ⟨#[67,79,82,69]⟩)),(3,j0)]) fun lI=>ad (dq P 31 [(0,X),(1,(int 100)),(2,hp),(3,cR),(5,w8),(6,lI)]) fun mm=>cG (df P 31) kB fun tw d0=>af (bx 16 tw mm d0) fun d1 d2=>e5 (fun d3=>ad (bG 9 (f 0)) fun d4=>af (aw d4 d2) fun zt vH=>aE zt (ad (bG 12 tw) fun zu=>ad (bG 1 zu) fun w9=>af (bx 1 w9 (int 1) vH) fun A5 eX=>d3 [f 0,f 1,J,tw] eX) (d3 [f 0,f 1,J,tw] vH)) (fun d3 d4=>ad (bG 6 (d3 0)) fun zt=>af (aw zt d4) fun vH zu=>af (bO vH zu) fun w9 A5=>eJ P true 251 Vs 166 [d3 0,d3 1,d3 2,d3 3,vH,w9,(int 0)] A5 (fun id eX a7=>cond (Nat.beq id 0) (af (bZ 16 (eX 3) a7) fun bt ei=>ay P 12 [bt] ei fun h6 hR=>e5 (fun ih=>ad (ar P .eql 34 true h6 (.pointer none)) fun sA=>aE sA (ad (aI sA (.bool true) undef) fun vx=>aE vx (aa (.bool false) hR) (ih [eX 0,eX 1,eX 2,eX 3,h6] hR)) (aH h6 3 fun vG=>af (aw vG hR) fun rP gY=>ad (ar P .eql 39 true rP (.pointer none)) fun gZ=>ad (aI sA (.bool true) gZ) fun f3=>aE f3 (aa (.bool false) gY) (ih [eX 0,eX 1,eX 2,eX 3,h6] gY))) (fun ih sA=>ad (bG 7 (ih 0)) fun vx=>af (aw vx sA) fun vG rP=>af (bO vG rP) fun gY gZ=>eJ P true 251 Vt 1190 [ih 0,ih 1,ih 2,ih 3,ih 4,vG,gY,(int 0)] gZ (fun id f3 f4=>cond (Nat.beq id 2) (eJ P true 251 Vu 1190 [f3 0,f3 1,f3 2,f3 3,f3 4,(int 0)] f4 (fun id f5 qR=>cond (Nat.beq id 4) (aH (f5 4) 3 fun A6=>af (aw A6 qR) fun H8 sy=>ay P 17 [H8] sy fun cg cd=>ad (eD 0 cg) fun g3=>ad (eD 1 cg) fun g4=>cG (df P 55) cd fun g5 lh=>af (bx 37 g5 g3 lh) fun g7 g8=>aH (f5 4) 0 fun aJ=>af (aw aJ g8) fun h1 h2=>ad (bG 12 (f5 3)) fun h3=>ad (bG 1 h3) fun aG=>af (aw aG h2) fun a6 bq=>ad (ar P .add 3 true (int 1) a6) fun bU=>ay P 18 [h1,bU] bq fun c2 fe=>aH (f5 4) 3 fun i1=>af (aw i1 fe) fun k2 q6=>ay P 15 [k2] q6 fun i4 od=>ad (ar P .eql 3 true i4 (int 2)) fun Bb=>aE Bb (aH (f5 4) 3 fun i8=>af (aw i8 od) fun i9 AX=>ay P 19 [i9] AX fun vF q4=>ad (ar P .eql 40 true vF (int 0)) fun Dx=>ad (aI Bb Dx (.bool false)) fun Vv=>aE Vv (ad (aI Vv g4 (.bool false)) fun Bh=>aE Bh (af (bZ 37 g5 q4) fun Jk zB=>af (bZ 37 (f5 2) zB) fun Bl Jl=>ay P 20 [Jk,Bl] Jl fun hS dZ=>ad (aI Bh hS (.bool false)) fun gd=>aE gd (aH (f5 4) 3 fun HB=>af (aw HB dZ) fun CU AU=>ay P 21 [CU] AU fun aDT ajy=>ad (bG 0 (f5 3)) fun ajz=>af (aw ajz ajy) fun eY fw=>ey (en AU ajy) (cm [ajz])/\(ad (ar P .eql 3 false aDT eY) fun dV=>ad (aI gd dV (.bool false)) fun qK=>aE qK (af (bO c2 fw) fun ue Ft=>ad (bG 0 (f5 0)) fun Vw=>af (aw Vw Ft) fun aDU aDV=>af (bO aDU aDV) fun aDW hn=>ad (ar P .geq 3 false ue aDW) fun fo=>ad (aI qK fo (.bool false)) fun fN=>aE fN (ad (bG 0 (f5 0)) fun xO=>af (aw xO hn) fun GV ag3=>af (bO GV ag3) fun ag4 ag5=>ad (hI 1 c2 none (some ag4) none) fun aDX=>af (tW aDX ag5) fun aDY aDZ=>ad (bG 0 (f5 0)) fun b3=>af (aw b3 aDZ) fun dL hJ=>af (tW dL hJ) fun fL kL=>ad (ar P .eql 9 false aDY fL) fun yb=>ad (aI fN yb (.bool false)) fun Vx=>aE Vx (aH (f5 4) 0 fun FB=>af (aw FB kL) fun dM dx=>ay P 22 [dM] dx fun bp eQ=>ay P 23 [bp] eQ fun c1 fK=>ad (ar P .eql 3 true c1 (int 0)) fun gQ=>ad (aI Vx gQ (.bool false)) fun dX=>aa dX fK) (ad (aI Vx undef (.bool false)) fun aD0=>aa aD0 kL)) (ad (aI fN undef (.bool false)) fun xO=>ad (aI xO undef (.bool false)) fun GV=>aa GV hn)) (ad (aI qK undef (.bool false)) fun ue=>ad (aI ue undef (.bool false)) fun Ft=>ad (aI Ft undef (.bool false)) fun Vw=>aa Vw fw))) (ad (aI gd undef (.bool false)) fun mg=>ad (aI mg undef (.bool false)) fun HB=>ad (aI HB undef (.bool false)) fun CU=>ad (aI CU undef (.bool false)) fun AU=>aa AU dZ)) (ad (aI Bh undef (.bool false)) fun Jk=>ad (aI Jk undef (.bool false)) fun zB=>ad (aI zB undef (.bool false)) fun Bl=>ad (aI Bl undef (.bool false)) fun Jl=>ad (aI Jl undef (.bool false)) fun hS=>aa hS q4)) (ad (aI Vv undef (.bool false)) fun Bh=>ad (aI Bh undef (.bool false)) fun Jk=>ad (aI Jk undef (.bool false)) fun zB=>ad (aI zB undef (.bool false)) fun Bl=>ad (aI Bl undef (.bool false)) fun Jl=>ad (aI Jl undef (.bool false)) fun hS=>aa hS q4)) (ad (aI Bb undef (.bool false)) fun pk=>ad (aI pk undef (.bool false)) fun i8=>ad (aI i8 undef (.bool false)) fun i9=>ad (aI i9 undef (.bool false)) fun AX=>ad (aI AX undef (.bool false)) fun vF=>ad (aI vF undef (.bool false)) fun q4=>ad (aI q4 undef (.bool false)) fun Dx=>aa Dx od)) (False)) (fun f5 qR=>aa (f5 1) qR)) (False)) (fun f3 f4=>aa (f3 1) f4))) (False)) (fun eX a7=>aa (eX 1) a7)))))
theorem aD1:W1 P 4 ajx:=Wm1
end
end J
namespace J
open Go Go.Ab
namespace V
variable{key b:List Int}{n aa eN T:Nat}{b5 aC ct:Int}{aK:da}{p:bX}{g:Nat->List Int}
theorem aD2:BH [(0:Int),0,0]=0:=by decide
theorem oC.any(b6:pC key b5 aK b aa n)(ah:∀j,j<aK.aN.length->gC (p5 aK b j)=aK.aN.getD j [])(aO:1<=eN)(h:oC key b5 aK b aa n aC g eN p T)(ct:Int):
  (∃dA,dA<=T/\oC key b5 aK b aa n aC g eN (p.step ct).2 dA)\/wq aK b n aC (p.step ct).2:=by
 by_cases aJ:ct=0;subst aJ;rcases h.Gh b6 aO with⟨cU,_⟩|⟨ft,cU,cR⟩
 grind
 grind
 by_cases h1:ct=1;subst h1;rcases h.iu b6 ah aO with⟨cU,_⟩|⟨ft,cU,cR⟩
 grind
 grind
 by_cases h2:ct=2;subst h2;rcases h.zO b6 with⟨_,cR⟩|⟨ft,cU,cR⟩|a
 grind
 grind
 simp_all
 have e:(p.step ct).2=p:=by unfold bX.step;rw[if_neg (by rw[h.st];decide)];split;unfold bX.uR tM.Gc;have:=h.d3;rw[h.d1,h.d2,aD2,if_neg (by omega)];rfl
 grind
def DS(key:List Int)(b5:Int)(aK:da)(b:List Int)(aa n:Nat)(aC:Int)(g:Nat->List Int)(eN:Nat)(p:bX)(T:Nat):Prop:=(∃dA,dA<=T/\oC key b5 aK b aa n aC g eN p dA)\/wq aK b n aC p
theorem DS.any(b6:pC key b5 aK b aa n)(ah:∀j,j<aK.aN.length->gC (p5 aK b j)=aK.aN.getD j [])(aO:1<=eN)(h:DS key b5 aK b aa n aC g eN p T)(ct:Int):DS key b5 aK b aa n aC g eN (p.step ct).2 T:=by
 rcases h with⟨ft,cU,cR⟩|a
 rcases cR.any b6 ah aO ct with⟨HC,b1,b2⟩|c
 exact .inl ⟨HC,by omega,b2⟩;exact .inr c;rw[a.BO];exact .inr a
theorem DS.dy(b6:pC key b5 aK b aa n)(ah:∀j,j<aK.aN.length->gC (p5 aK b j)=aK.aN.getD j [])(aO:1<=eN)(h:DS key b5 aK b aa n aC g eN p T)(bk:3*T+3<=4000):wq aK b n aC (o0 0 4000 p):=by
 rcases h with⟨ft,cU,cR⟩|a
 ·exact cR.done b6 ah aO ft 0 4000 (by omega)
 ·rw[Jj (by rw[a.st];decide)];exact a
end V
end J
namespace J
open Go Go.Ab
variable{H:au}{S X:List (Nat×ax)}{v:Value}{i:Nat}{xs:List Int}
def uZ(S:List (Nat×ax))(v:Value)(xs:List Int):Prop:=(v=bu/\xs=[])\/∃(p c j:Nat) (w:Bool),v=aC p 0 xs.length c/\S[j]?=some (p,(⟨xs.map (Value.int .i64),w⟩:ax))
theorem uZ.app(h:uZ S v xs):uZ (S++X) v xs:=by
 rcases h with h|⟨p,c,j,w,h1,h2⟩
 exact .inl h;exact .inr ⟨p,c,j,w,h1,aL h2⟩
theorem uZ.app'(h:uZ S v xs):uZ (X++S) v xs:=by
 rcases h with h|⟨p,c,j,w,h1,h2⟩
 exact .inl h;exact .inr ⟨p,c,X.length+j,w,h1,az h2⟩
theorem uZ.bO(h:uZ S v xs):Go.Ab.bO v H=some (int xs.length,H):=by rcases h with⟨rfl,rfl⟩|⟨p,c,j,w,rfl,_⟩<;>rfl
theorem uZ.get(h:uZ S v xs)(an:i<xs.length):∃(p c j:Nat) (w:Bool) (aq:List Value),v=aC p 0 xs.length c/\S[j]?=some (p,(⟨aq,w⟩:ax))/\aq[0+i*1]?=some (int xs[i]):=by
 rcases h with⟨_,rfl⟩|⟨p,c,j,w,rfl,bm⟩
 simp at an
 grind
structure qV where
 ic:List Int
 aF:Nat
 eu:Nat
 iS:Nat
 cV:Nat
 rv:Nat
 wr:List Int
 DT:List Int
 fH:List Int
 aC:Bool
def nd(g:qV)(iv wv pv sv:Value):List Value:=[iv,bT .u8 g.aF,bT .u8 g.eu,bT .u8 g.iS,bT .u16 g.cV,bT .u16 g.rv,wv,pv,sv,.bool g.aC]
structure GdR (S:List (Nat×ax)) (g:qV) (iv wv pv sv:Value):Prop where
 BQ:RdB S iv g.ic
 nn:cE g.ic
 is:1<=g.ic.length->pr S iv
 Oc:uZ S wv g.wr
 Od:RdB S pv g.DT
 db:cE g.DT
 dI:RdB S sv g.fH
 qu:cE g.fH
 aF:g.aF<256
 eu:g.eu<256
 iS:g.iS<256
 cV:g.cV<65536
 rv:g.rv<65536
theorem GdR.app{g:qV}{iv wv pv sv:Value}(h:GdR S g iv wv pv sv):GdR (S++X) g iv wv pv sv:=
 ⟨h.BQ.app,h.nn,fun aD=>(h.is aD).app,h.Oc.app,h.Od.app,h.db,h.dI.app,h.qu,h.aF,h.eu,h.iS,h.cV,h.rv⟩
theorem aD3(xs:List Int):(xs.map (Value.int .u8)).all fY=true:=by
 induction xs with
 | nil=>rfl
 | cons x r bg=>exact bg
theorem aD4{cN:List TypeId}{N:Nat}{c:List Value}{b:List (List Value)}(h:fS P (22::cN) N c b):
  ∃v bV b1 b2 xs,c=v::bV/\b=b1++b2/\RdB (kK N b1) v xs/\cE xs/\(1<=xs.length->pr (kK N b1) v)/\fS P cN (N+b1.length) bV b2:=by
 rcases Fg MZ h with⟨bV,a7,h3⟩|⟨len,cells,bV,bs,di,a7,xC,hm,aD,h3,aG⟩
 exact⟨_,bV,[],b,[],a7,rfl,.inl ⟨rfl,rfl⟩,fun x ao=>(by cases ao),fun h=>absurd h (by simp),h3⟩;obtain⟨ak,xs,rfl,rfl,aM⟩:=Ln (k:=.u8) Go.Proofs.Tryz.underlying5 _ _ _ _ h3;subst ak;subst xC;refine⟨_,bV,[_],di,xs,a7,rfl,.inr ⟨N,0,_,rfl,.inl rfl,.inr ⟨0,_,rfl,by grind⟩⟩,fun x ao=>Ff (aM x ao),fun aD=>?_,aG⟩;refine .inr ⟨N,0,xs.length,_,0,_,rfl,rfl,aD3 xs,.inr ?_⟩
 grind
theorem aD5:P.underlying 48=some (.slice 3):=by rfl
theorem aD6{cN:List TypeId}{N:Nat}{c:List Value}{b:List (List Value)}(h:fS P (48::cN) N c b):
  ∃v bV b1 b2 xs,c=v::bV/\b=b1++b2/\uZ (kK N b1) v xs/\fS P cN (N+b1.length) bV b2:=by
 rcases Fg aD5 h with⟨bV,a7,h3⟩|⟨len,cells,bV,bs,di,a7,xC,hm,aD,h3,aG⟩
 exact⟨_,bV,[],b,[],a7,rfl,.inl ⟨rfl,rfl⟩,h3⟩;obtain⟨ak,xs,rfl,rfl,aM⟩:=Ln (k:=.i64) Go.Proofs.Tryz.underlying3 _ _ _ _ h3;subst ak;subst xC;exact⟨_,bV,[_],di,xs,a7,rfl,.inr ⟨N,_,0,false,rfl,rfl⟩,aG⟩
theorem aD7{t:TypeId}(ht:P.underlying t=some .bool){cN:List TypeId}{N:Nat}{c:List Value}{b:List (List Value)}(h:fS P (t::cN) N c b):∃(x:Bool) (bV:List Value),c=.bool x::bV/\fS P cN N bV b:=by
 cases h with
 | bool v _ h=>grind
 | int v bf _ _=>simp_all
 | bS v bf _ _=>simp_all
 | lg bf _=>simp_all
 | aC len bf _ _ _ _=>simp_all
 | struct bf _=>simp_all
 | array bf _=>simp_all
theorem aD8{k:IntKind}{x:Int}(h:0<=x):Value.int k x=bT k x.toNat:=by grind
theorem aGJ{cN:List TypeId}{N:Nat}{av:List Value}{b:List (List Value)}(h:pe P (50::cN) N av b):
  ∃g iv wv pv sv vs b1 b2,av=agg (nd g iv wv pv sv)::vs/\b=b1++b2/\GdR (kK N b1) g iv wv pv sv/\pe P cN (N+b1.length) vs b2:=by
 obtain⟨aq,vs,b1,b2,rfl,rfl,h1,h2⟩:=YW h (.inl ⟨_,Go.Proofs.Tryz.underlying50⟩);have aJ:=Dr Go.Proofs.Tryz.underlying50 h1;have aJ:fS P [22,5,5,5,47,47,48,22,22,4] N aq b1:=aJ;obtain⟨iv,dg,d1,a7,ic,rfl,rfl,r1,bP,MX,h3⟩:=aD4 aJ;obtain⟨aF,cr,rfl,fb,aG⟩:=pf (k:=.u8) Go.Proofs.Tryz.underlying5 h3;obtain⟨eu,fJ,rfl,kz,a6⟩:=pf (k:=.u8) Go.Proofs.Tryz.underlying5 aG;obtain⟨iS,iy,rfl,agh,bq⟩:=pf (k:=.u8) Go.Proofs.Tryz.underlying5 a6;obtain⟨cV,j0,rfl,Fw,bU⟩:=pf (k:=.u16) Go.Proofs.Tryz.underlying47 bq;obtain⟨rv,kB,rfl,QZ,c2⟩:=pf (k:=.u16) Go.Proofs.Tryz.underlying47 bU;obtain⟨wv,lI,d2,bt,wr,rfl,rfl,r2,fe⟩:=aD6 c2;obtain⟨pv,mm,d3,ei,DT,rfl,rfl,r3,cS,gH⟩:=Gu fe;obtain⟨sv,tw,d4,h6,fH,rfl,rfl,ti,eI,i6⟩:=Gu gH;obtain⟨qu,aDB,rfl,nW⟩:=aD7 Go.Proofs.Tryz.underlying4 i6;obtain⟨rfl,rfl⟩:=Lo nW;have yG:kK N (d1++(d2++(d3++(d4++[]))))=kK N d1++(kK (N+d1.length) d2++(kK (N+d1.length+d2.length) d3++(kK (N+d1.length+d2.length+d3.length) d4++kK (N+d1.length+d2.length+d3.length+d4.length) []))):=by grind[Lp]
 have cd:=Ff fb;have g3:=Ff kz;have g4:=Ff agh;have g5:=YU Fw;have lh:=YU QZ;refine⟨⟨ic,aF.toNat,eu.toNat,iS.toNat,cV.toNat,rv.toNat,wr,DT,fH,qu⟩,iv,wv,pv,sv,vs,_,b2,?_,rfl,⟨by rw[yG];exact r1.app,bP,fun aD=>by rw[yG];exact(MX aD).app,by rw[yG];exact r2.app.app',by rw[yG];exact(r3.app.app').app',cS,by rw[yG];exact((ti.app.app').app').app',eI,by grind,by grind,by grind,by grind,by grind⟩,h2⟩;show _=agg [iv,bT .u8 aF.toNat,bT .u8 eu.toNat,bT .u8 iS.toNat,bT .u16 cV.toNat,bT .u16 rv.toNat,wv,pv,sv,.bool qu]::vs
 simp_all[aD8]
end J
namespace J
open Go Go.Ab
variable[cu:b0]
variable{H:au}{S F X R jz:List (Nat×ax)}{aa:VH}{q q2:fA}{p:bX}{i cK o gx:Nat}{aq:List Value}{v sv ov fv kv:Value}{w:ew}
def iB(x:Int):lQ:=if x<0 then⟨1,0,0⟩else⟨3,x,0⟩
theorem aD9:(dq P 61).f [(0,(.int .i64 1))]=some (agg (l5 ⟨1,0,0⟩)):=by rfl
theorem aEa(x:Int):(dq P 61).f [(0,(.int .i64 3)),(1,int x)]=some (agg (l5 ⟨3,x,0⟩)):=by rfl
theorem aEb(f:lQ)(H:au):(eV P 24 1).f [(0,agg (l5 f))] H=some (aC H.next 0 1 7,H.push (l5 f)):=by rfl
theorem ajA{f:lQ}{b:Option Value}{aa:au->Prop}(hO:aj H (jz++([(gx,⟨fI w sv ov fv kv,true⟩)]++bQ fv (ir w.bb))))(hv:iV 3 fv w.bb.length (ir w.bb))(aU:w.bb.length<=1000)(ak:b=some (agg (l5 f)))
  (ah:∀ab hN,aj ab (jz++([(gx,⟨fI {w with bb:=w.bb++[f]} sv ov hN kv,true⟩)]++bQ hN (ir (w.bb++[f]))))->iV 3 hN (w.bb++[f]).length (ir (w.bb++[f]))->aa ab):
  ad (bG 4 (ai gx 0)) fun a=>af (aw a H) fun g h=>ad b fun i=>af ((eV P 24 1).f [(0,i)] h) fun j k=>af (gw 3 24 g j k) fun m n=>ad (bG 4 (ai gx 0)) fun o=>af (bx 1 o m n) fun p q=>aa q:=by
 refine ag b7 (aY hO (jz.length+0) (az (aL rfl)) (v:=fv) rfl (ag ak (ik hO (aEb _ _) ?_)));intro DU H hO;have ez:aj H (((jz++[(gx,(⟨fI w sv ov fv kv,true⟩:ax))])++[(DU,⟨l5 f,true⟩)])++bQ fv (ir w.bb)):=
  hO.fj (gL fun p=>by grind)
 have U:h4 (((jz++[(gx,(⟨fI w sv ov fv kv,true⟩:ax))])++[(DU,⟨l5 f,true⟩)])++bQ fv (ir w.bb)) (aC DU 0 1 7) [f]:=.inr ⟨DU,0,7,rfl,.inr rfl,.inr ⟨(jz++[(gx,(⟨fI w sv ov fv kv,true⟩:ax))]).length+0,_,aL (az rfl),rfl⟩⟩;refine Qy (m:=1) (cY:=l5 f) ez hv (by omega) rfl (U.pL ez) (by omega) (by omega) (by omega) rfl rfl ?_;intro DV H hO xB;have e:ir w.bb++l5 f=ir (w.bb++[f]):=by simp[ir]
 rw[e]at hO xB
 replace hO:aj H ((((jz++[(DU,⟨l5 f,true⟩)])++[(DV,⟨ir (w.bb++[f]),true⟩)]))++[(gx,⟨fI w sv ov fv kv,true⟩)]):=
  hO.fj (gL fun p=>by grind)
 refine ag b7 (fR hO (_+0) (az rfl) rfl (show 4<16 by omega) (bE:=fI {w with bb:=w.bb++[f]} sv ov (aC DV 0 (w.bb.length+1) (2*3)) kv) rfl ?_);intro H hO
 replace hO:=hO.cD
 refine ah H (aC DV 0 (w.bb.length+1) (2*3)) ?_ (by rw[length_append];exact xB)
 replace hO:aj H ((((jz++[(DU,⟨l5 f,true⟩)])++[(DV,⟨ir (w.bb++[f]),true⟩)]))++[(gx,⟨fI {w with bb:=w.bb++[f]} sv ov (aC DV 0 (w.bb.length+1) (2*3)) kv,true⟩)]):=hO
 replace hO:aj H ((jz++([(gx,⟨fI {w with bb:=w.bb++[f]} sv ov (aC DV 0 (w.bb.length+1) (2*3)) kv,true⟩)]++[(DV,⟨ir (w.bb++[f]),true⟩)]))++[(DU,⟨l5 f,true⟩)]):=
  hO.fj (gL fun p=>by grind)
 exact hO.left
theorem aEc{eh b1 b2 wv:Value}{xs:List Int}{bC:LX}{ch:LN}(ao:uZ S wv xs)(aU:xs.length<=100)(aJ:w.bb=[])(hO:aj H ((S++F)++([(gx,⟨fI w sv ov fv kv,true⟩)]++bQ fv (ir w.bb))))(hv:iV 3 fv w.bb.length (ir w.bb))
  (ah:∀ab hN,aj ab ((S++F)++([(gx,⟨fI {w with bb:=xs.map iB} sv ov hN kv,true⟩)]++bQ hN (ir (xs.map iB))))->iV 3 hN (xs.map iB).length (ir (xs.map iB))->bC 0 [eh,b1,b2,ai gx 0] ab):
  eJ P true 251 Vs 166 [eh,b1,b2,ai gx 0,wv,int xs.length,int 0] H bC ch:=by
 refine aDQ (fun k aA ab=>∃(y:Nat) (hN:Value),y<=xs.length/\k=xs.length-y/\aA=[eh,b1,b2,ai gx 0,wv,int xs.length,int y]/\aj ab ((S++F)++([(gx,⟨fI {w with bb:=(xs.take y).map iB} sv ov hN kv,true⟩)]++bQ hN (ir ((xs.take y).map iB))))/\iV 3 hN ((xs.take y).map iB).length (ir ((xs.take y).map iB))) _ _ ?_ xs.length _ _ ⟨0,fv,zero_le _,rfl,rfl,by rw[take_zero,map_nil,<- aJ];exact hO,by rw[take_zero,map_nil,<- aJ];exact hv⟩;rintro k aA H ⟨y,hN,ba,rfl,rfl,hO,hv⟩;unfold aju
 try simp only[cj,ck]
 refine ag fr (bF (fun dw=>?_) (fun dw=>?_));have gR:y<xs.length:=by omega
 have la:(ar P .add 3 true).f (int y) (int 1)=some (int ((y+1:Nat):Int)):=by grind[jg]
 have ht:(xs.take (y+1)).map iB=(xs.take y).map iB++[iB xs[y]]:=by grind[I6]
 have aD:((xs.take y).map iB).length<=1000:=by grind
 obtain⟨s9,q9,uL,MK,Vo,rfl,uM,pb⟩:=ao.get gR;refine ag (jD (by omega) (by omega)) ?_;rw[Int.toNat_natCast];refine aY hO uL (aL (aL uM)) pb ?_;generalize xs[y]=x at*;refine ag fr (bF (fun aEd=>?_) (fun aEd=>?_));refine ajA (w:={w with bb:=(xs.take y).map iB}) hO hv aD aD9 ?_;intro ab DI dF jF;have e:iB x=⟨1,0,0⟩:=by simp_all[iB]
 rw[<- e]at dF jF;exact ag la (⟨_,by omega,y+1,DI,gR,rfl,rfl,by rw[ht];exact dF,by rw[ht];exact jF⟩);refine ajA (w:={w with bb:=(xs.take y).map iB}) hO hv aD (aEa x) ?_;intro ab DI dF jF;have e:iB x=⟨3,x,0⟩:=by simp_all[iB]
 rw[<- e]at dF jF;exact ag la (⟨_,by omega,y+1,DI,gR,rfl,rfl,by rw[ht];exact dF,by rw[ht];exact jF⟩);have e:y=xs.length:=by omega
 subst e;rw[take_length]at hO hv;exact ah H hN hO hv
theorem aEe{I:bX->Prop}{eh b1 b2 gE pv:Value}{xs:List Int}{bC:LX}{ch:LN}(jf:∀p ct,I p->I (p.step ct).2)(ao:RdB S pv xs)(ak:cE xs)(aU:xs.length<=300)(an:F[i]?=some (cK,⟨aq,true⟩))(hv:aq[3]?=some (ai q.db 0))(h1:I p)(h:cz H S F q p 30)
  (ah:∀ab X cp cI,q.et cp->I cI->cz ab (S++X) F cp cI 330->bC 2 [eh,b1,b2,gE,ai cK 0] ab):
  eJ P true 251 Vt 1190 [eh,b1,b2,gE,ai cK 0,pv,int xs.length,int 0] H bC ch:=by
 refine aDR (fun k aA ab=>∃(y:Nat) (X:List (Nat×ax)) (cp:fA) (cI:bX),y<=xs.length/\k=xs.length-y/\aA=[eh,b1,b2,gE,ai cK 0,pv,int xs.length,int y]/\q.et cp/\I cI/\cz ab (S++X) F cp cI (30+y)) _ _ ?_ xs.length _ _ ⟨0,[],q,p,zero_le _,rfl,rfl,.fC,h1,by rw[append_nil];exact h⟩;rintro k aA H ⟨y,X,cp,cI,ba,rfl,rfl,al,h1,h⟩;unfold ajv
 try simp only[cj,ck]
 refine ag fr (bF (fun dw=>?_) (fun dw=>?_));have gR:y<xs.length:=by omega
 have la:(ar P .add 3 true).f (int y) (int 1)=some (int ((y+1:Nat):Int)):=by grind[jg]
 obtain⟨s9,ll,q9,uL,pX,rfl,uM,pb⟩:=UH ao gR;refine ag (jD (by omega) (by omega)) ?_;obtain⟨aX,R,U,hO⟩:=h;refine aY hO uL (aL (aL (aL uM))) pb ?_;have h:cz H (S++X) F cp cI (30+y):=⟨aX,R,U,hO⟩;refine aV (h.fM an (by omega) ?_);have FA:=ak xs[y] (getElem_mem gR);refine bW (NL FA) ?_;obtain⟨n,Eu⟩:=Int.eq_ofNat_of_zero_le FA.1;rw[Eu];refine ag (uN (b:=4) (by decide)) ?_;rw[<- al.db];refine sW (by omega) h ?_;intro H q2 lb hl h;refine ag la (⟨_,by omega,y+1,X++lb,q2,(cI.step ((n%4:Nat):Int)).2,gR,rfl,rfl,al.trans hl,jf _ _ h1,?_⟩);rw[<- append_assoc];exact h.mono (by omega);exact ah H X cp cI al h1 (h.mono (by omega))
theorem aEf{eh b1 b2 gE:Value}{bC:LX}{ch:LN}(an:F[i]?=some (cK,⟨aq,true⟩))(hv:aq[3]?=some (ai q.db 0))(h:cz H S F q p 330)
  (ah:∀ab X cp,q.et cp->cz ab (S++X) F cp (V.o0 0 4000 p) 4330->bC 4 [eh,b1,b2,gE,ai cK 0] ab):
  eJ P true 251 Vu 1190 [eh,b1,b2,gE,ai cK 0,int 0] H bC ch:=by
 refine aDS (fun k aA ab=>∃(y:Nat) (X:List (Nat×ax)) (cp:fA) (cI:bX),y<=4000/\k=4000-y/\aA=[eh,b1,b2,gE,ai cK 0,int y]/\q.et cp/\cz ab (S++X) F cp cI (330+y)/\V.o0 y (4000-y) cI=V.o0 0 4000 p) _ _ ?_ 4000 _ _ ⟨0,[],q,p,by omega,rfl,rfl,.fC,by rw[append_nil];exact h,rfl⟩;rintro k aA H ⟨y,X,cp,cI,ba,rfl,rfl,bY,h,vC⟩;unfold ajw;have dy:cI.st≠1\/y=4000->bC 4 [eh,b1,b2,gE,ai cK 0] H:=by
  intro ev;have e:cI=V.o0 0 4000 p:=by
   rcases ev with h1|h1
   simp_all[V.Jj]
   subst h1;exact vC
  rw[e]at h;exact ah H X cp bY (h.mono (by omega))
 refine e3 (fun aA ab=>aA=[eh,b1,b2,gE,ai cK 0,int y]/\ab=H/\y<4000/\cI.st=1) ?_ ?_
 try simp only[cj,ck]
 refine ag fr (bF (fun h1=>?_) (fun h1=>?_));refine aV (h.fM an (by omega) ?_);rw[<- bY.db];refine uW h (ag e2 (ag (gA h1) (bF (fun h2=>?_) (fun h2=>?_))))
 grind
 exact dy (.inl h2);exact ag (gP h1) (dP rfl (dy (.inr (by omega))));rintro aA ab ⟨rfl,rfl,dw,ev⟩
 try simp only[cj,ck]
 refine aV (h.fM an (by omega) (ag (uN (by decide)) ?_));rw[<- bY.db];refine sW (by omega) h ?_;intro cJ cS lb al hg;refine ag (v:=int ((y+1:Nat):Int)) (by grind[jg]) (⟨_,by omega,y+1,X++lb,cS,_,dw,rfl,rfl,bY.trans al,by rw[<- append_assoc];exact hg,?_⟩);rw[<- vC,show 4000-y=(4000-(y+1))+1 by omega,V.Vc ev]
end J
namespace J
open Go Go.Ab
variable[cu:b0]
variable{H:au}{S F R ae:List (Nat×ax)}{aa:VH}{q:fA}{p bp:bX}{N i cK:Nat}{aq:List Value}{v sv cM fv kv:Value}{w:ew}{aS:da}{t:pY}{c r1 r2 r3:Nat}{cw:Bool}{bj:Int}
theorem aEg(ok:aS.b4)(IT:e8 ae sv aS.aN)(rV:cM=.pointer none\/∃st,cM=ai st 0)(an:ae[i]?=some (c,⟨fk kv t r1 r2 r3 aS sv cM cw bj,true⟩))(hO:aj H ae)
  (ah:∀ab aQ,aj ab (ae++bQ aQ (fV aS.aN))->e8 (bQ aQ (fV aS.aN)) aQ aS.aN->aa (.tuple [agg (bN aS aQ),.bool (Nl cM)].toArray) ab):ay P 71 [ai c 0] H aa:=by
 apply arE;unfold abo;have Ar:=eS (aZ:=sv) ok.dh;rw[yp];refine dH hO ?_;intro bp H hO;refine aV (iH hO i (aL an) (ayM ok.dh) Ar (by omega) (j3 hO ?_));intro c1 H hO
 replace hO:aj H (ae++[(bp,⟨bN eY bu,true⟩),(c1,⟨bN eY bu,true⟩)]):=hO
 refine lr hO 1 rfl rfl Ar (nt IT.fh) ?_;intro H hO
 replace hO:aj H (ae++[(bp,⟨bN eY bu,true⟩),(c1,⟨bN aS sv,true⟩)]):=hO
 refine ag b7 (cB hO 1 rfl (sP ok.dh) (agS IT.app ok.ea ok.n hO ?_));intro H ej hO h1;refine ag b7 (fR hO (ae.length+1) (aL (az rfl)) h1.fh (by omega) (ag0 ok.dh) ?_);intro H hO;rw[set_append_left _ _ (by simp),Go.Ab.cD]at hO
 replace hO:aj H ((ae++[(bp,⟨bN eY bu,true⟩),(c1,⟨bN aS ej,true⟩)])++bQ ej (fV aS.aN)):=hO
 refine gh hO (ae.length+1) (aL (az rfl)) (eS ok.dh) (by omega) (aV (aY hO i (aL (aL an)) (Dv ok.dh) (ag (v:=.bool (Nl cM)) (by rcases rV with rfl|⟨st,rfl⟩<;>first|exact ay6|rfl) ?_)));have tf:=(List.getElem?_eq_some_iff.1 an).1;have dC:=J.aj.My hO (i:=i) (j:=ae.length+0) (aL (aL an)) (aL (az rfl)) (by omega);refine fT hO (ae.length+0) (aL (az rfl)) (by rfl) (eS ok.dh) (nt h1.fh) ?_;intro H hO;rw[set_append_left _ _ (by simp),Go.Ab.cD]at hO
 replace hO:aj H ((ae++[(bp,⟨bN aS ej,true⟩),(c1,⟨bN aS ej,true⟩)])++bQ ej (fV aS.aN)):=hO
 refine⟨ay7 dC,?_⟩;refine gh hO (ae.length+0) (aL (az rfl)) (eS ok.dh) (by omega) (ah H ej ?_ h1);rw[append_assoc]at hO;exact SA hO
theorem aEh(h:cz H S F q p N)(ah:∀ab aQ,e8 (bQ aQ (fV p.c.aS.aN)) aQ p.c.aS.aN->cz ab S (F++bQ aQ (fV p.c.aS.aN)) q p N->aa (.tuple [agg (bN p.c.aS aQ),.bool p.c.al.isSome].toArray) ab):ay P 17 [ai q.db 0] H aa:=by
 obtain⟨aX,R,U,hO⟩:=h;apply aqO;unfold aav;rw[yp];refine dH hO ?_;intro a H hO;have aEi:=lx (S:=S) (F:=F) (R:=R) (q:=q) (p:=p) (k:=6) (x:=(q.db,⟨mX q p.w.cy p.st p.fg,true⟩)) rfl;have Fs:=lx (S:=S) (F:=F) (R:=R) (q:=q) (p:=p) (k:=0) (x:=(q.c,⟨q.aF p,true⟩)) rfl;refine aV (aY hO _ (aL aEi) (v:=ai q.c 0) rfl (aEg aX.tO (aX.xx.app.app.app) aX.xy (aL Fs) hO ?_));intro H aQ hO hv;rw[aX.xz];refine ag kT (ag kU (fT hO (_+0) (aL (az rfl)) (by rfl) (eS aX.tO.dh) (nt hv.fh) ?_));intro H hO;rw[set_append_left _ _ (by simp),Go.Ab.cD]at hO
 replace hO:aj H ((((S++(F++R))++nX q p)++[(a,⟨bN p.c.aS aQ,true⟩)])++bQ aQ (fV p.c.aS.aN)):=hO
 refine gh hO (_+0) (aL (az rfl)) (eS aX.tO.dh) (by omega) (ah H aQ hv ⟨aX,R,U,?_⟩);have dF:aj H (((S++((F++bQ aQ (fV p.c.aS.aN))++R))++nX q p)++[(a,⟨bN p.c.aS aQ,true⟩)]):=
  hO.fj (gL fun p=>by simp only[countP_append,countP_cons,countP_nil];omega)
 exact dF.left
theorem Oe(q:fA)(p:bX):nX q p=[(q.c,(⟨q.aF p,true⟩:ax)),(q.b8,⟨fs p.w.s q.L.cO,true⟩),(q.w,⟨q.W.jv p.w,true⟩),(q.bz,⟨fD q.ca q.fv p.aR.dk,true⟩),(q.cn,lO p.d.fG p.d.kY q.eb p.d.eR.length),(q.eb,lP p.d.eR),(q.db,⟨mX q p.w.cy p.st p.fg,true⟩)]++dJ q.L p.w.m:=rfl
theorem cz.all{oq:Int}(h:cz H S F q p N)(ah:∀ab v aq,gf v (p.w.m.all oq) aq->cz ab S (F++bQ v aq) q p N->aa v ab):ay P 18 [ai q.L.cO 0,int oq] H aa:=by obtain⟨aX,R,U,hO⟩:=h;rw[Oe,<- append_assoc]at hO;refine afl aX.m.ok hO ?_;intro H v aq hO hv;refine ah H v aq hv ⟨aX,R,U,?_⟩;rw[Oe];exact hO.fj (gL fun p=>by simp only[countP_append,countP_cons,countP_nil];omega)
theorem cz.Ie(h:cz H S F q p N)(ah:aa (ai q.L.bl 0) H):ay P 22 [ai q.L.cO 0] H aa:=by obtain⟨aX,R,U,hO⟩:=h;rw[Oe,<- append_assoc]at hO;exact avf hO ah
theorem aEj{L:lK}{m:br}(hv:lq L m)(hO:aj H (ae++dJ L m))(ah:aa (int m.d.done.length) H):ay P 23 [ai L.bl 0] H aa:=by apply aqW;unfold aaF;refine aV ?_;have h2:=dJ.FR hO;exact aY h2 (_+0) (az rfl) (v:=L.dQ) rfl (bW hv.d.bO ah)
theorem cz.aEk(h:cz H S F q p N)(ah:aa (int p.w.m.d.done.length) H):ay P 23 [ai q.L.bl 0] H aa:=by obtain⟨aX,R,U,hO⟩:=h;rw[Oe,<- append_assoc]at hO;exact aEj aX.own hO ah
theorem cz.aEl{m:da}{aZ:Value}{q3:Value->VH}(h:cz H S F q p N)(hm:m.cn.length=32)(aB:eL aZ=true)(ah:∀e ab u,cz ab S (F++[(e,⟨bN m aZ,true⟩)]) q p N->q3 (ai e 0) u ab):cG (df P 55) H fun e f=>af (bx 37 e (agg (bN m aZ)) f) fun g h=>q3 e g h:=by
 obtain⟨aX,R,U,hO⟩:=h;rw[yp];refine dH hO ?_;intro e H hO;refine fT hO (_+0) (az rfl) rfl (eS hm) (nt aB) ?_;intro H hO
 replace hO:=hO.cD
 replace hO:aj H (((S++(F++R))++nX q p)++[(e,⟨bN m aZ,true⟩)]):=hO
 refine ah e H _ ⟨aX,R,U,hO.fj (gL fun p=>by grind)⟩
theorem cz.ajB{n:Nat}(h:cz H S F q p N)(an:F[i]?=some (cK,⟨aq,true⟩))(aU:aq.length=n)(aJ:0<n)(ah:aa (agg aq) H):af (bZ n (ai cK 0) H) aa:=by obtain⟨aX,R,U,hO⟩:=h;exact gh hO (S.length+i) (aL (az (aL an))) aU aJ ah
theorem cz.aEm{a b:da}{aZ jL:Value}(h:cz H S F q p N)(zF:a.b4)(Br:b.b4)(bn:e8 (S++F) aZ a.aN)(ak:e8 (S++F) jL b.aN)(ah:∀ab,cz ab S F q p N->aa (.bool (decide (Bq a b))) ab):ay P 20 [agg (bN a aZ),agg (bN b jL)] H aa:=by
 obtain⟨aX,R,U,hO⟩:=h;have e:(S++(F++R))++nX q p=(S++F)++(R++nX q p):=by simp_all
 rw[e]at hO;refine axn zF Br bn.app ak.app hO ?_;intro ab ju;rw[<- e]at ju;exact ah ab ⟨aX,R,U,ju⟩
theorem cz.bS{xs:List Int}(h:cz H S F q p N)(hv:RdB (S++F) v xs)(ah:aa (Fo xs) H):af (tW v H) aa:=by
 obtain⟨aX,R,U,hO⟩:=h;have e:(S++(F++R))++nX q p=(S++F)++(R++nX q p):=by simp_all
 rw[e]at hO;exact bW (RdB.bS hO hv.app) ah
theorem aEn(t:TypeId)(c:Bool)(xs:List Int):(ar P .eql t c).f (Fo xs) (Fo xs)=some (.bool true):=by
 have:(ar P .eql t c).f (Fo xs) (Fo xs)=some (.bool ((xs.map fun n=>UInt8.ofNat n.toNat)==xs.map fun n=>UInt8.ofNat n.toNat)):=rfl
 simp_all
end J
namespace J
open Go Go.Ab
variable{S:List (Nat×ax)}{aa:VH}{p:bX}{o:Nat}{v fv:Value}{g:qV}
def DW:List UInt8:=[67,111,114,101]
def Gv:List UInt8:=[67,79,82,69]
def gM(g:qV):da:=lN hi (g.cV+1) (64*((1+g.aF%4:Nat):Int)) g.ic
def l6(g:qV)(bb:List lQ):ew:=⟨(((g.ic.length+63)/64:Nat):Int),100,g.fH,[(hi,V.nb h5 (gM g) g.ic)],bb,⟨h5,DW,((g.iS%20:Nat):Int),(g.eu:Int),5,0,0⟩,⟨4,if g.aC then 1 else 0,Gv,min g.rv (g.cV+1)⟩⟩
theorem aEo(a:Option Addr)(n c:Nat)(r d:Int):(dq P 26).f [(0,.slice a n c),(1,(.string ⟨#[67,111,114,101]⟩)),(2,int r),(3,int d),(4,(.int .i64 5))]=some (agg (my ⟨h5,DW,r,d,5,0,0⟩ (.slice a n c))):=by rfl
theorem aEp(f:Nat):(dq P 29).f [(0,(.int .i64 4)),(2,(.string ⟨#[67,79,82,69]⟩)),(3,bT .u64 f)]=some (agg (mY ⟨4,0,Gv,f⟩)):=by rfl
theorem aEq(a b s:Option Addr)(n c m d ajC cr:Nat)(x r e:Int)(f:Nat):(dq P 31).f [(0,int x),(1,(.int .i64 100)),(2,.slice s ajC cr),(3,.slice a n c),(5,agg (my ⟨h5,DW,r,e,5,0,0⟩ (.slice b m d))),(6,agg (mY ⟨4,0,Gv,f⟩))]=some (agg (fI ⟨x,100,[],[],[],⟨h5,DW,r,e,5,0,0⟩,⟨4,0,Gv,f⟩⟩ (.slice s ajC cr) (.slice a n c) bu (.slice b m d))):=by rfl
theorem aEr:kc DW=kc hi:=by decide
theorem aEs:kc Gv=kc hi:=by decide
theorem aEt{bb:List lQ}(h:iV 3 fv bb.length (ir bb)):h4 (S++bQ fv (ir bb)) fv bb:=by
 rcases h with⟨rfl,aJ,_⟩|⟨p,h|h,aD⟩
 exact .inl ⟨rfl,length_eq_zero_iff.1 aJ⟩;subst h;exact .inr ⟨p,0,6,rfl,.inl rfl,.inr ⟨S.length+0,_,az rfl,by grind⟩⟩;subst h;exact .inr ⟨p,0,7,rfl,.inr rfl,.inr ⟨S.length+0,_,az rfl,by grind⟩⟩
theorem aEu(xs:List Int):V.DN (xs.map iB):=by
 intro f hf
 grind[iB]
theorem aEv(xs:List Int):∀f∈xs.map iB,f.v<256:=by grind[iB]
structure DX (g:qV):Prop where
 rT:1<=g.ic.length
 rU:g.ic.length<=1000
 wr:g.wr.length<=g.iS%20
 DT:g.DT.length<=300
 fH:g.fH.length<=30
theorem Vy{n c:Nat}(h:n<=1000):l2 (n:Int) (64*((1+c%4:Nat):Int))<=16:=by
 have aB:c%4=0\/c%4=1\/c%4=2\/c%4=3:=by omega
 grind[l2]
theorem Vz(hf:DX g)(hv:g.cV<65536):eG (gM g):=by have:=hf.rT;have:=hf.rU;have aB:=Vy (c:=g.aF) hf.rU;exact ahR Un (by omega) (by omega) (by omega) (by omega) (by omega) (by omega) (by omega) (by omega)
theorem ajD(hf:DX g)(hv:g.cV<65536):(gM g).b4:=by have:=hf.rU;have aB:=Vy (c:=g.aF) hf.rU;exact Nv (by omega) (by omega) (by omega) (by decide) (by omega)
theorem aEw(hf:DX g)(hv:g.cV<65536){n:Nat}(aU:n=(g.ic.length+63)/64):V.pC h5 ((iZ h5 (gM g)).length:Int) (gM g) g.ic (1+g.aF%4) n:=by
 have:=hf.rU;refine⟨⟨Vz hf hv,rfl,rfl,rfl,?_,by omega⟩,ajD hf hv,rfl⟩
 grind[hq]
theorem aEx{o:List UInt8×List Int}(h:ra o.1=0):zN [] o=[(kc o.1,o.2)]:=by unfold zN;rw[if_pos ⟨rfl,h⟩];rfl
theorem aEy{o:List UInt8×List Int}(h:ra o.1=0):BI [o]=[(kc o.1,o.2)]:=by simp_all[BI,aEx]
theorem aEz{x:List UInt8}{o:List UInt8×List Int}(h:ra o.1=0)(ao:kc x=kc o.1):v8 (BI [o]) (kc x)=some o.2:=by simp_all[aEy,v8]
theorem aEA(hf:DX g)(hv:g.cV<65536):∃(b5:Int) (aa n:Nat) (cd:Nat->List Int) (T:Nat),V.pC h5 b5 (gM g) g.ic aa n/\n=(g.ic.length+63)/64/\3*T+3<=4000/\V.DS h5 b5 (gM g) g.ic aa n (if g.aC then 1 else 0) cd (eK (g.eu:Int)) (kg (l6 g (g.wr.map iB))) T:=by
 have h1:=hf.rT;have h2:=hf.rU;have b6:=aEw hf hv (n:=(g.ic.length+63)/64) rfl;have wI:l4 (if g.aC then(1:Int)else 0):=by unfold l4;omega
 have GX:nV (gM g) ⟨DW,min g.rv (g.cV+1),64*(((g.ic.length+63)/64:Nat):Int)⟩=0:=by unfold nV;rw[if_neg (fun h=>h (Vz hf hv)),if_neg (by show¬(kc hi≠kc DW);rw[aEr];simp),if_neg (by show¬(g.cV+1<min g.rv (g.cV+1));omega),if_neg (by show¬((g.ic.length:Int)>64*(((g.ic.length+63)/64:Nat):Int));omega)]
 obtain⟨cd,T,h,bk⟩:=V.ai9 (cv:=l6 g (g.wr.map iB)) (n:=(g.ic.length+63)/64) b6 rfl (by omega) rfl (by show(1:Int)<=4;decide) wI (aEz (x:=Gv) (o:=(hi,V.nb h5 (gM g) g.ic)) Un aEs) GX (aEu g.wr) (by show(g.wr.map iB).length<=(max 0 (min ((g.iS%20:Nat):Int) 100)).toNat;rw[length_map];have:=hf.wr;omega);have hL:(gM g).aN.length<=16:=by
  have aB:=Vy (c:=g.aF) h2
  simp_all[gM,lN,BF]
 have U:=Bz (g.eu:Int);have bt:hq g.ic.length<=16:=by grind[hq]
 have h6:(max 0 (min (l6 g (g.wr.map iB)).fl.iS 100)).toNat<=19:=by show(max 0 (min ((g.iS%20:Nat):Int) 100)).toNat<=19;omega
 have hR:(max 0 (min (l6 g (g.wr.map iB)).fl.iS 100)).toNat*(2*eK (l6 g (g.wr.map iB)).fl.eu+3)<=19*35:=Nat.mul_le_mul h6 (by grind[eK]);exact⟨_,_,_,cd,T,b6,rfl,by omega,.inl ⟨T,Nat.le_refl _,h⟩⟩
end J
namespace J
open Go Go.Ab
variable{H:au}{S F X R:List (Nat×ax)}{aa:VH}{q:fA}{p:bX}{i o dM:Nat}{v sv iv wv pv:Value}{w:ew}{g:qV}
theorem aEB[cu:b0]{J:LN}(hg:GdR S g iv wv pv sv)(hO:aj H (S++F))(an:F[i]?=some (dM,⟨nd g iv wv pv sv,true⟩))(hZ:∀H,aa (.bool true) H)(aEC:DX g->J [ai dM 0,.bool false] H):
   ad (bG 0 (ai dM 0)) fun g=>
   af (aw g H) fun h i=>
   af (bO h i) fun j k=>
   ad ((ar P .lss 3 true).f j (.int .i64 1)) fun m=>
   aE m (
   ad (aI m (.bool true) undef) fun n=>
   ad (aI n (.bool true) undef) fun o=>
   ad (aI o (.bool true) undef) fun p=>
   ad (aI p (.bool true) undef) fun q=>
   aE q (
   aa (.bool true) k) (
   J [ai dM 0,(.bool false)] k)) (
   ad (bG 0 (ai dM 0)) fun n=>
   af (aw n k) fun o p=>
   af (bO o p) fun q r=>
   ad ((ar P .gtr 3 true).f q (.int .i64 1000)) fun s=>
   ad (aI m (.bool true) s) fun t=>
   aE t (
   ad (aI t (.bool true) undef) fun u=>
   ad (aI u (.bool true) undef) fun v=>
   ad (aI v (.bool true) undef) fun w=>
   aE w (
   aa (.bool true) r) (
   J [ai dM 0,(.bool false)] r)) (
   ad (bG 6 (ai dM 0)) fun u=>
   af (aw u r) fun v w=>
   af (bO v w) fun x y=>
   ad (bG 3 (ai dM 0)) fun z=>
   af (aw z y) fun A B=>
   af (iw .i64 A B) fun C D=>
   ad ((ar P .rem 3 true).f C (.int .i64 20)) fun dm=>
   ad ((ar P .gtr 3 false).f x dm) fun F=>
   ad (aI t (.bool true) F) fun G=>
   aE G (
   ad (aI G (.bool true) undef) fun I=>
   ad (aI I (.bool true) undef) fun L=>
   aE L (
   aa (.bool true) D) (
   J [ai dM 0,(.bool false)] D)) (
   ad (bG 7 (ai dM 0)) fun I=>
   af (aw I D) fun eH L=>
   af (bO eH L) fun c4 dj=>
   ad ((ar P .gtr 3 true).f c4 (.int .i64 300)) fun Q=>
   ad (aI G (.bool true) Q) fun R=>
   aE R (
   ad (aI R (.bool true) undef) fun S=>
   aE S (
   aa (.bool true) dj) (
   J [ai dM 0,(.bool false)] dj)) (
   ad (bG 8 (ai dM 0)) fun S=>
   af (aw S dj) fun T eH=>
   af (bO T eH) fun V W=>
   ad ((ar P .gtr 3 true).f V (.int .i64 30)) fun X=>
   ad (aI R (.bool true) X) fun hd=>
   aE hd (
   aa (.bool true) W) (
   J [ai dM 0,(.bool false)] W))))):=by
 have ao:∀ {k:Nat} {x:Value} {aa:VH},(nd g iv wv pv sv)[k]?=some x->aa x H->af (aw (ai dM (0+k)) H) aa:=fun hv ah=>aY hO (S.length+i) (az an) (by simp_all) ah
 refine ag b7 (ao (k:=0) (x:=iv) rfl (bW hg.BQ.bO (ag fr (bF (fun h1=>?_) (fun h1=>?_)))))
 ·exact ag (gA h1) (ag j9 (ag j9 (ag j9 (eT rfl (hZ _)))))
 refine ag b7 (ao (k:=0) (x:=iv) rfl (bW hg.BQ.bO (ag kS (ag (gP h1) (bF (fun h2=>?_) (fun h2=>?_))))))
 ·exact ag (gA h2) (ag j9 (ag j9 (eT rfl (hZ _))))
 refine ag b7 (ao (k:=6) (x:=wv) rfl (bW hg.Oc.bO (ag b7 (ao (k:=3) (x:=bT .u8 g.iS) rfl ?_))));have:=hg.iS;refine bW (w3 (by omega)) (ag (uN (b:=20) (by decide)) (ag kS (ag (gP h2) (bF (fun h3=>?_) (fun h3=>?_)))))
 ·exact ag (gA h3) (ag j9 (eT rfl (hZ _)))
 refine ag b7 (ao (k:=7) (x:=pv) rfl (bW hg.Od.bO (ag kS (ag (gP h3) (bF (fun aG=>?_) (fun aG=>?_))))))
 ·exact ag (gA aG) (eT rfl (hZ _))
 refine ag b7 (ao (k:=8) (x:=sv) rfl (bW hg.dI.bO (ag kS (ag (gP aG) (bF (fun a6=>?_) (fun a6=>?_))))))
 ·exact hZ _
 exact aEC ⟨by omega,by omega,by omega,by omega,by omega⟩
end J
namespace J
open Go Go.Ab
variable{H:au}{S F X ae:List (Nat×ax)}{aa:VH}{q bP q2:fA}{p dx:bX}{i cK o gx dM:Nat}{v sv ov fv kv iv wv pv:Value}{w:ew}{g:qV}
theorem aED{w:ew}(h:pB S w wv ov fv kv):(fI w wv ov fv kv).all eL=true:=by
 obtain⟨aP,h1,_⟩:=h.off;have bM:eL ov=true:=by rcases h1 with⟨rfl,_⟩|⟨p,c,j,w,rfl,_⟩<;>rfl
 show(true&&(true&&(eL wv&&(eL ov&&(eL fv&&(my w.fl kv++mY w.cb).all eL)))))=true;rw[UE h.fH,bM,h.bb.fh,all_append,aiv h.key];rfl
def DY(g:qV):ew:={l6 g []with cb:={(l6 g []).cb with aC:=0}}
theorem aEE{sv ov fv kv:Value}:fI (DY g) sv ov fv kv=(fI (l6 g []) sv ov fv kv).set 13 (int 0):=rfl
theorem aEF{sv ov fv kv:Value}(h:(fI (l6 g []) sv ov fv kv).all eL=true):(fI (DY g) sv ov fv kv).all eL=true:=h
theorem aGK[cu:b0](hg:GdR ae g iv wv pv sv)(hO:aj H ae)(hZ:∀H,aa (.bool true) H):ay P 4 [agg (nd g iv wv pv sv)] H aa:=by
 apply aD1;unfold ajx;rw[sa];refine dH hO ?_;intro dM H hO;refine NY hO ?_;intro zW H X _ hO;refine ag ix (dP rfl ?_);have hg:=hg.app (X:=X);generalize ae++X=S at*;refine e3 (fun aA ab=>aA=[ai dM 0,.bool false]/\DX g/\ab=H) ?_ ?_;exact aEB (i:=0) (J:=fun aA ab=>aA=[ai dM 0,.bool false]/\DX g/\ab=H) hg hO rfl hZ fun hf=>⟨rfl,hf,rfl⟩
 rintro aA ab ⟨rfl,hf,rfl⟩
 try simp only[cj,ck]
 have mc:=hf.rT;have q7:=hf.rU;have hv:=hg.cV;have sZ:∀ {b9},((S++[(dM,(⟨nd g iv wv pv sv,true⟩:ax))])++b9)[S.length+0]?=some (dM,⟨nd g iv wv pv sv,true⟩):=aL (az rfl);refine ag b7 (aY hO (S.length+0) (az rfl) (v:=bT .u16 g.cV) rfl (bW (uu (e6:=.u64) rfl) (ag (sH (k:=.u64) (a:=g.cV%gr .u64) (b:=1) rfl) ?_)));rw[show(g.cV%gr .u64+1)%gr .u64=g.cV+1 from by show(g.cV%18446744073709551616+1)%18446744073709551616=_;omega];refine ik hO (NQ _) ?_;intro bP H hO;refine F0 hO 0 rfl (by omega) (ag b7 (aY hO _ sZ (v:=bT .u8 g.aF) rfl ?_));have:=hg.aF;refine bW (w3 (by omega)) (ag (uN (b:=4) (by decide)) (ag (yq (a:=1) (by omega)) (ag (vA (by omega) (by omega)) (ag b7 (aY hO _ sZ (v:=iv) rfl ?_)))))
 replace hO:aj H ((S++[(bP,⟨bd h5,true⟩)])++[(dM,⟨nd g iv wv pv sv,true⟩)]):=
  hO.fj (gL fun p=>by grind)
 have U:=Vz hf hv;have fq:=ajD hf hv;rw[aiN];refine aiF (key:=h5) (ic:=g.ic) (cF:=hi) (cV:=g.cV+1) (aF:=64*((1+g.aF%4:Nat):Int)) (xh (k:=0) rfl (.inr rfl) rfl) NP (by decide) hg.BQ.app hg.nn (by omega) (hg.is mc).app (by omega) (by omega) (by decide) hO (fun h=>absurd U h) ?_;intro _ H kf aZ Of sf js hO
 replace sf:RdB ((S++[(bP,⟨bd h5,true⟩)])++Of) kf (V.nb h5 (gM g) g.ic):=sf
 replace js:e8 ((S++[(bP,⟨bd h5,true⟩)])++Of) aZ (gM g).aN:=js
 rw[show lN hi (g.cV+1) (64*((1+g.aF%4:Nat):Int)) g.ic=gM g from rfl];have hg:=(hg.app (X:=[(bP,⟨bd h5,true⟩)])).app (X:=Of);generalize (S++[(bP,(⟨bd h5,true⟩:ax))])++Of=S2 at*;refine ag (show _=some kf from rfl) (ag (show _=some (agg (bN (gM g) aZ))from rfl) (ag (show _=some (.bool true)from rfl) ?_));rw[yp];refine dH hO ?_;intro dn H hO;refine fT hO (_+0) (az rfl) (eS rfl) (eS fq.dh) (nt js.fh) ?_;intro H hO
 replace hO:=hO.cD
 replace hO:aj H ((S2++[(dM,⟨nd g iv wv pv sv,true⟩)])++[(dn,⟨bN (gM g) aZ,true⟩)]):=hO
 have sZ:∀ {b9},((S2++[(dM,(⟨nd g iv wv pv sv,true⟩:ax))])++b9)[S2.length+0]?=some (dM,⟨nd g iv wv pv sv,true⟩):=aL (az rfl);refine ag ix (dP rfl (ag b7 (aY hO _ sZ (v:=iv) rfl (bW hg.BQ.bO (ag (yq (b:=63) (by omega)) (ag (Is (b:=64) (by decide) (by omega)) (ag b7 (aY hO _ sZ (v:=sv) rfl ?_))))))));obtain⟨pX,xd,iF,UX⟩:=sf.lk;subst UX;refine ag (aiL _ _ _ _) (ik hO (aiM _ _ _ _ _) ?_);intro kZ H hO;refine ik hO (NQ _) ?_;intro cS H hO;refine F0 hO 0 rfl (by omega) ?_
 replace hO:aj H ((S2++[(dM,⟨nd g iv wv pv sv,true⟩)])++[(dn,⟨bN (gM g) aZ,true⟩),(kZ,⟨[bS hi,.slice pX xd iF],true⟩),(cS,⟨bd h5,true⟩)]):=by simp only[append_assoc]at hO⊢;exact hO
 refine ag b7 (aY hO _ sZ (v:=bT .u8 g.iS) rfl ?_);have:=hg.iS;refine bW (w3 (by omega)) (ag (uN (b:=20) (by decide)) (ag b7 (aY hO _ sZ (v:=bT .u8 g.eu) rfl ?_)));have:=hg.eu;refine bW (w3 (by omega)) (ag (aEo _ _ _ _ _) (ag b7 (aY hO _ sZ (v:=bT .u16 g.rv) rfl ?_)));have:=hg.rv;refine bW (uu (e6:=.u64) rfl) ?_;rw[show g.rv%gr .u64=g.rv from by show g.rv%18446744073709551616=_;omega];refine bW tl ?_;rw[show min ((g.rv:Nat):Int) ((g.cV+1:Nat):Int)=((min g.rv (g.cV+1):Nat):Int)from by omega];refine ag (aEp _) ?_;obtain⟨kI,lB,lC,nR⟩:=hg.dI.lk;subst nR;refine ag (show _=some (agg (fI (DY g) (.slice kI lB lC) (aC kZ 0 1 5) bu (aC cS 0 3 3)))from aEq _ _ _ _ _ _ _ _ _ _ _ _ _) ?_;rw[UW];refine dH hO ?_;intro gx H hO;have Pa:RdB ((S2++[(kZ,(⟨[bS hi,.slice pX xd iF],true⟩:ax)),(cS,⟨bd h5,true⟩)])) (aC cS 0 3 3) h5:=xh (k:=1) rfl (.inr rfl) rfl;have AN:pB (S2++[(kZ,(⟨[bS hi,.slice pX xd iF],true⟩:ax)),(cS,⟨bd h5,true⟩)]) (l6 g []) (.slice kI lB lC) (aC kZ 0 1 5) bu (aC cS 0 3 3):=by refine⟨hg.dI.app,hg.qu,⟨[[bS hi,.slice pX xd iF]],.inr ⟨kZ,5,S2.length+0,true,rfl,az rfl,rfl⟩,Al.cons ⟨_,rfl,sf.app,?_⟩ Al.nil⟩,h4.nil,(by intro f hf;cases hf),Pa,NP⟩;exact mS (mS (Tv fq) Tu) hg.nn
 refine fT hO (_+0) (az rfl) rfl rfl (aEF (aED AN)) ?_;intro H hO
 replace hO:=hO.cD
 replace hO:aj H (((S2++[(dM,⟨nd g iv wv pv (.slice kI lB lC),true⟩)])++[(dn,⟨bN (gM g) aZ,true⟩),(kZ,⟨[bS hi,.slice pX xd iF],true⟩),(cS,⟨bd h5,true⟩)])++[(gx,⟨fI (DY g) (.slice kI lB lC) (aC kZ 0 1 5) bu (aC cS 0 3 3),true⟩)]):=hO
 have hg:=hg.app (X:=[(kZ,(⟨[bS hi,.slice pX xd iF],true⟩:ax)),(cS,⟨bd h5,true⟩)]);have js:e8 (S2++[(kZ,(⟨[bS hi,.slice pX xd iF],true⟩:ax)),(cS,⟨bd h5,true⟩)]) aZ (gM g).aN:=js.app
 replace hO:aj H (((S2++[(kZ,(⟨[bS hi,.slice pX xd iF],true⟩:ax)),(cS,⟨bd h5,true⟩)])++[(dM,⟨nd g iv wv pv (.slice kI lB lC),true⟩),(dn,⟨bN (gM g) aZ,true⟩)])++[(gx,⟨fI (DY g) (.slice kI lB lC) (aC kZ 0 1 5) bu (aC cS 0 3 3),true⟩)]):=
  hO.fj (gL fun p=>by grind)
 generalize S2++[(kZ,(⟨[bS hi,.slice pX xd iF],true⟩:ax)),(cS,⟨bd h5,true⟩)]=S3 at*;have sZ:∀ {b9},((S3++[(dM,(⟨nd g iv wv pv (.slice kI lB lC),true⟩:ax)),(dn,⟨bN (gM g) aZ,true⟩)])++b9)[S3.length+0]?=some (dM,⟨nd g iv wv pv (.slice kI lB lC),true⟩):=aL (az rfl);refine e3 (fun aA ab=>aA=[ai dM 0,.bool false,ai dn 0,ai gx 0]/\aj ab ((S3++[(dM,⟨nd g iv wv pv (.slice kI lB lC),true⟩),(dn,⟨bN (gM g) aZ,true⟩)])++[(gx,⟨fI (l6 g []) (.slice kI lB lC) (aC kZ 0 1 5) bu (aC cS 0 3 3),true⟩)])) ?_ ?_;refine ag b7 (aY hO _ sZ (v:=.bool g.aC) rfl (qj (fun ak=>?_) (fun ak=>?_)));refine ag b7 (ag b7 (fR hO (_+0) (az rfl) rfl (show 13<16 by omega) (bE:=fI (l6 g []) (.slice kI lB lC) (aC kZ 0 1 5) bu (aC cS 0 3 3)) (by rw[aEE];unfold l6;rw[ak];rfl) ?_));intro H hO
 replace hO:=hO.cD
 exact⟨rfl,hO⟩;refine⟨rfl,?_⟩;have e:DY g=l6 g []:=by simp_all[DY,l6]
 rw[<- e];exact hO;rintro aA H ⟨rfl,hO⟩
 try simp only[cj,ck]
 refine ag b7 (aY hO _ sZ (v:=wv) rfl (bW hg.Oc.bO (aEc (F:=[(dM,⟨nd g iv wv pv (.slice kI lB lC),true⟩),(dn,⟨bN (gM g) aZ,true⟩)]) (w:=l6 g []) (sv:=.slice kI lB lC) (ov:=aC kZ 0 1 5) (fv:=bu) (kv:=aC cS 0 3 3) hg.Oc (by have:=hf.wr;omega) rfl (by rw[show bQ bu (ir (l6 g []).bb)=[]from rfl,append_nil];exact hO) iV.nil ?_)));intro H fv hO oO;show cond (Nat.beq 0 0) _ _;rw[beq_refl];show af (bZ 16 (ai gx 0) H) _
 replace hO:aj H ((S3++[(dM,⟨nd g iv wv pv (.slice kI lB lC),true⟩),(dn,⟨bN (gM g) aZ,true⟩)])++([(gx,⟨fI (l6 g (g.wr.map iB)) (.slice kI lB lC) (aC kZ 0 1 5) fv (aC cS 0 3 3),true⟩)]++bQ fv (ir (g.wr.map iB)))):=hO
 replace hO:aj H ((S3++bQ fv (ir (g.wr.map iB)))++[(dM,⟨nd g iv wv pv (.slice kI lB lC),true⟩),(dn,⟨bN (gM g) aZ,true⟩),(gx,⟨fI (l6 g (g.wr.map iB)) (.slice kI lB lC) (aC kZ 0 1 5) fv (aC cS 0 3 3),true⟩)]):=
  hO.fj (gL fun p=>by grind)
 have hW:pB (S3++bQ fv (ir (g.wr.map iB))) (l6 g (g.wr.map iB)) (.slice kI lB lC) (aC kZ 0 1 5) fv (aC cS 0 3 3):=⟨AN.fH.app,AN.pq,AN.off.app,aEt oO,aEv g.wr,AN.key.app,AN.BB⟩;have hg:=hg.app (X:=bQ fv (ir (g.wr.map iB)));have js:e8 (S3++bQ fv (ir (g.wr.map iB))) aZ (gM g).aN:=js.app;generalize S3++bQ fv (ir (g.wr.map iB))=S4 at*;have It:=aiC hW;refine gh hO (S4.length+2) (az rfl) rfl (by omega) ?_;have An:(l6 g (g.wr.map iB)).ko:=by
  have hh:=By (key:=h5) fq U;have:=hf.wr;have:=hf.fH;refine⟨⟨by show(1:Int)<=((_:Nat):Int);omega,by show(((g.ic.length+63)/64:Nat):Int)<=20;omega⟩,by show g.fH.length<=30;omega,by show 1<=5;omega,by show(g.wr.map iB).length<=60;grind,by show 3<=200;omega,by show 4<=200;omega,by show 4<=200;omega,?_⟩;intro o bM;rcases mem_singleton.1 bM with rfl;refine⟨by show 4<=200;omega,?_⟩;show(iZ h5 (gM g)++g.ic).length<=4000
  grind
 have ux:=V.NX (cv:=l6 g (g.wr.map iB)) (by show(1:Int)<=4;decide) (by show l4 (if g.aC then 1 else 0);unfold l4;omega);refine Gm An hW hO (fun h=>absurd (by rw[ux]) h) ?_;intro _ tR H cK q VA _ _ iQ;have hg:=hg.app (X:=VA);have js:e8 (S4++VA) aZ (gM g).aN:=js.app;generalize S4++VA=S5 at*;have rF:([(dM,(⟨nd g iv wv pv (.slice kI lB lC),true⟩:ax)),(dn,⟨bN (gM g) aZ,true⟩),(gx,⟨fI (l6 g (g.wr.map iB)) (.slice kI lB lC) (aC kZ 0 1 5) fv (aC cS 0 3 3),true⟩)]++[(cK,(⟨ku q,true⟩:ax))])[0]?=some (dM,⟨nd g iv wv pv (.slice kI lB lC),true⟩):=rfl;have jo:([(dM,(⟨nd g iv wv pv (.slice kI lB lC),true⟩:ax)),(dn,⟨bN (gM g) aZ,true⟩),(gx,⟨fI (l6 g (g.wr.map iB)) (.slice kI lB lC) (aC kZ 0 1 5) fv (aC cS 0 3 3),true⟩)]++[(cK,(⟨ku q,true⟩:ax))])[1]?=some (dn,⟨bN (gM g) aZ,true⟩):=rfl;have mb:([(dM,(⟨nd g iv wv pv (.slice kI lB lC),true⟩:ax)),(dn,⟨bN (gM g) aZ,true⟩),(gx,⟨fI (l6 g (g.wr.map iB)) (.slice kI lB lC) (aC kZ 0 1 5) fv (aC cS 0 3 3),true⟩)]++[(cK,(⟨ku q,true⟩:ax))])[2]?=some (gx,⟨fI (l6 g (g.wr.map iB)) (.slice kI lB lC) (aC kZ 0 1 5) fv (aC cS 0 3 3),true⟩):=rfl;have nO:([(dM,(⟨nd g iv wv pv (.slice kI lB lC),true⟩:ax)),(dn,⟨bN (gM g) aZ,true⟩),(gx,⟨fI (l6 g (g.wr.map iB)) (.slice kI lB lC) (aC kZ 0 1 5) fv (aC cS 0 3 3),true⟩)]++[(cK,(⟨ku q,true⟩:ax))])[3]?=some (cK,⟨ku q,true⟩):=rfl;generalize ([(dM,(⟨nd g iv wv pv (.slice kI lB lC),true⟩:ax)),(dn,⟨bN (gM g) aZ,true⟩),(gx,⟨fI (l6 g (g.wr.map iB)) (.slice kI lB lC) (aC kZ 0 1 5) fv (aC cS 0 3 3),true⟩)]++[(cK,(⟨ku q,true⟩:ax))])=F at*
 obtain⟨b5,kR,n,cd,T,b6,aU,bk,VB⟩:=aEA hf hv;have ah:=fun j bm=>V.aja (cF:=hi) (cV:=g.cV+1) b6.i (j:=j) bm
 have aO:1<=eK (g.eu:Int):=(Bz _).1;refine e3 (fun aA ab=>aA=[ai dM 0,.bool false,ai dn 0,ai gx 0,ai cK 0]/\ab=H) ?_ ?_;exact ag (zZ _) (dP rfl (aV (iQ.fM nO (nc .fC) (ag (Gs _) (ag km (dP rfl (⟨rfl,rfl⟩)))))));rintro aA ab ⟨rfl,rfl⟩
 try simp only[cj,ck]
 refine ag b7 (iQ.fM rF (v:=pv) rfl (bW hg.Od.bO (aEe (I:=fun p=>V.DS h5 b5 (gM g) g.ic kR n (if g.aC then 1 else 0) cd (eK (g.eu:Int)) p T) (fun p ct h=>h.any b6 ah aO ct) hg.Od hg.db hf.DT nO (nc .fC) VB iQ ?_)));intro H VC bP dx jJ VB iQ;have yD:=VB.dy b6 ah aO bk;have hg:=hg.app (X:=VC);have js:e8 (S5++VC) aZ (gM g).aN:=js.app;generalize S5++VC=S6 at*;show cond (Nat.beq 2 2) _ _;rw[beq_refl]
 try simp only[cj,ck]
 refine aEf nO (nc jJ) iQ ?_;intro H VD q2 hl iQ;have al:=jJ.trans hl;generalize V.o0 0 4000 dx=Vq at*;have hg:=hg.app (X:=VD);have js:e8 (S6++VD) aZ (gM g).aN:=js.app;generalize S6++VD=S7 at*;show cond (Nat.beq 4 4) _ _;rw[beq_refl];show ad (pG (ai cK 0)) _;refine aV (iQ.fM nO (nc al) (aEh iQ ?_));intro H nj GZ iQ;rw[yD.aS]at GZ iQ⊢;rw[yD.al];refine ag kT (ag kU (iQ.aEl (m:=gM g) fq.dh GZ.fh ?_));intro g5 H u iQ;have VE:((F++bQ nj (fV (gM g).aN))++[(g5,(⟨bN (gM g) nj,true⟩:ax))])[(F++bQ nj (fV (gM g).aN)).length+0]?=some (g5,⟨bN (gM g) nj,true⟩):=az rfl;have aEG:e8 (S7++((F++bQ nj (fV (gM g).aN))++[(g5,(⟨bN (gM g) nj,true⟩:ax))])) nj (gM g).aN:=(e8.app' (e8.app' (ae:=F) GZ).app);have rF:((F++bQ nj (fV (gM g).aN))++[(g5,(⟨bN (gM g) nj,true⟩:ax))])[0]?=_:=aL (aL rF);have jo:((F++bQ nj (fV (gM g).aN))++[(g5,(⟨bN (gM g) nj,true⟩:ax))])[1]?=_:=aL (aL jo);have mb:((F++bQ nj (fV (gM g).aN))++[(g5,(⟨bN (gM g) nj,true⟩:ax))])[2]?=_:=aL (aL mb);have nO:((F++bQ nj (fV (gM g).aN))++[(g5,(⟨bN (gM g) nj,true⟩:ax))])[3]?=_:=aL (aL nO);generalize CB:(F++bQ nj (fV (gM g).aN))++[(g5,(⟨bN (gM g) nj,true⟩:ax))]=wb at*;refine aV (iQ.fM nO (Ob al) (ag b7 (ag b7 (iQ.fM mb (v:=int (if g.aC then 1 else 0)) rfl ?_))));have Xl:l4 (if g.aC then(1:Int)else 0):=by unfold l4;omega
 generalize (if g.aC=true then(1:Int)else 0)=aC at*;refine ag (v:=int (1+aC)) (by rw[jg (by omega) (by omega)]) (iQ.all ?_);intro H va q9 Fv iQ;rw[yD.all,ahQ (b:=g.ic) (n:=n) (by grind[hq])]at Fv;have hlen:(g.ic++List.replicate (64*n-g.ic.length) (255:Int)).length=64*n:=by rw[length_append,length_replicate];omega
 have VF:=Fv.lY;have VE:(wb++bQ va q9)[_]?=_:=aL VE;have rF:(wb++bQ va q9)[0]?=_:=aL rF;have jo:(wb++bQ va q9)[1]?=_:=aL jo;have mb:(wb++bQ va q9)[2]?=_:=aL mb;have nO:(wb++bQ va q9)[3]?=_:=aL nO;refine aV (iQ.fM nO (nc al) (uW iQ ?_));rw[yD.st];refine ag e2 (oa rfl (aV (iQ.fM nO (nc al) (NG iQ ?_))));rw[yD.fg];refine ag e2 (ag (gA rfl) (oa rfl (ag (gA rfl) (eT rfl (iQ.ajB VE (eS fq.dh) (by omega) (iQ.ajB jo (eS fq.dh) (by omega) (iQ.aEm fq fq (by rw[<- append_assoc];exact aEG.app) js.app ?_)))))));intro H iQ;refine ag j9 (oa (afX.2 rfl) (aV (iQ.fM nO (nc al) (NH iQ ?_))));rw[yD.wr];refine ag b7 (iQ.fM mb (v:=int (((g.ic.length+63)/64:Nat):Int)) rfl (⟨iQ.Oa iQ mb mb It,?_⟩));refine ag (v:=.bool true) (by simp_all[e2,hq]) (ag (gA (afX.2 rfl)) (eT rfl (bW VF.bO (ag b7 (iQ.fM rF (v:=iv) rfl (bW hg.BQ.bO (ag um (ag j9 (oa (by omega) (ag b7 (iQ.fM rF (v:=iv) rfl (bW hg.BQ.bO ?_))))))))))));obtain⟨ej,aEH,i1⟩:=A8 VF (n:=g.ic.length) (by omega);refine ag aEH ?_;have nL:=i1 _ VF;rw[take_left' rfl]at nL;refine iQ.bS (by rw[<- append_assoc];exact nL.app') (ag b7 (iQ.fM rF (v:=iv) rfl (iQ.bS hg.BQ.app (ag (aEn _ _ _) (ag (gA (by omega)) (eT rfl (aV (iQ.fM nO (Ob al) (iQ.Ie (iQ.aEk ?_))))))))))
 rw[yD.cw];refine ag e2 (ag j9 ?_);show aa (.bool (decide ((0:Int)=0))) H;rw[decide_eq_true rfl];exact hZ _
end J
