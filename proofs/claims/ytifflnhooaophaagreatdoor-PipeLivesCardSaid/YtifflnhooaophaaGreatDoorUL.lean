/- texts of the nf, fh behind the mA -/
import Derived.Test.YtifflnhooaophaaGreatDoorUK
set_option linter.unusedVariables false
set_option linter.unusedSimpArgs false
set_option linter.unusedSectionVars false
set_option maxHeartbeats 4000000
set_option maxRecDepth 100000
open List Nat
namespace J
open Go Go.Ab
variable[cu:b0]
variable{d:bK}{m:br}{x:List Int}{xs:List (List Int)}{n k y e:Nat}{w aW dT fb:bA}{aC:Int}{f g:Nat->List Int}
inductive zM:Nat->bA->bA->Prop
 | nil (w:bA):zM 0 w w
 | step {k:Nat} {w dT fb:bA}:w.step=(true,dT)->zM k dT fb->zM (k+1) w fb
theorem zM.fh(h:w.step=(true,dT)):zM 1 w dT:=.step h (.nil _)
theorem zM.trans{j:Nat}(h:zM k w dT)(aT:zM j dT fb):zM (k+j) w fb:=by
 induction h with
 | nil=>rw[Nat.zero_add];exact aT
 | step h1 _ bg=>rw[succ_add];exact .step h1 (bg aT)
structure gT (w:bA) (n:Nat) (aC:Int) (f g:Nat->List Int):Prop where
 n2:w.s.sT w.cy
 dt:w.s.cQ=aC
 cP:w.cQ=aC
 dM:w.s.dM=0
 dx:w.s.dx=1
 kt:l4 aC
 ig:jY w.m n n
 jZ:w.m.d.gm=false
 k9:w.m.d.gK=-1
 iz:w.m.d.iz=100
 f:∀i,i<n->eb w.m.d (off n aC+i)=f i
 g:∀i,i<n->eb w.m.d (off n (1-aC)+i)=g i
theorem gT.part(h:gT w n aC f g):w.s.part aC=aC:=by
 unfold fF.part;rcases h.kt with e|e<;>subst e
 rw[if_neg (by omega),if_pos rfl,h.dM];rw[if_neg (by omega),if_neg (by omega),h.dx]
theorem ys{b:Int}:mw n n b=n:=by simp_all[mw]
theorem gT.size(h:gT w n aC f g):w.size=n:=by unfold bA.size;rw[h.cP,h.part,DB h.ig h.kt,ys]
theorem ahF{j:Nat}(bm:j<d.cells.length):(d.fU (j:Int)).2=0:=by simp_all[bK.fU,Nx]
theorem Uh{A B:Nat}{b:Int}(h:jY m A B)(ak:l4 b)(ba:y<mw A B b):(m.fU b y).2=0:=by unfold br.fU;rw[DD h ak ba,if_neg (by simp)];exact ahF (DC h ak ba)
theorem gT.fU(h:gT w n aC f g)(ba:y<n):w.s.fU w.m w.cQ y=(f y,0):=by
 unfold fF.fU;have al:mw n n aC=n:=ys;have aU:¬(aC:Int)<0:=by rcases h.kt with e|e<;>omega
 rw[h.cP,h.part,if_neg aU];refine Prod.ext ?_ ?_;show(w.m.fU aC y).1=_;rw[DE h.ig h.kt (by omega)];exact h.f y ba;exact Uh h.ig h.kt (by omega)
theorem gT.mW(h:gT w n aC f g)(ba:y<n):mW w y↔f y≠jG:=by
 unfold J.mW;rw[h.fU ba]
 simp_all
theorem I0:∀(k y z:Nat),w.sb k y=some z->y<=z/\z<y+k/\mW w z
 | 0,y,z,h=>by cases h
 | k+1,y,z,h=>by
  have h:(if mW w y then some y else w.sb k (y+1))=some z:=h;split at h
  simp_all
  obtain⟨a,b,c⟩:=I0 k (y+1) z h
  grind
theorem ahG:∀(k y:Nat),w.sb k y=none->∀z,y<=z->z<y+k->¬mW w z
 | 0,y,h,z,h1,h2=>by omega
 | k+1,y,h,z,h1,h2=>by have h:(if mW w y then some y else w.sb k (y+1))=none:=h;split at h;cases h;rename_i aO;by_cases e:z=y;subst e;exact aO;exact ahG k (y+1) h z (by omega) (by omega)
def v7(f:Nat->List Int)(y:Nat)(x:List Int):Nat->List Int:=fun i=>if i=y then x else f i
structure aAM (w aW:bA):Prop where
 s:aW.s=w.s
 cy:aW.cy=w.cy
 cQ:aW.cQ=w.cQ
 ct:aW.m.ct=w.m.ct
theorem Ui{s:fF}{cy:Nat}{F:br->br×Int}(hh:s.sT cy):s.as m cy F=({(F {m with ct:=s.jy}).1 with ct:=m.ct},(F {m with ct:=s.jy}).2):=by simp_all[fF.as]
theorem jY.as{a:Int}(h:jY m n n):jY {m with ct:=a} n n:=⟨h.cM,h.Ge⟩
def tL(f:Nat->List Int)(n:Nat):Nat:=(List.range n).countP fun y=>decide (f y≠jG)
theorem Ny:tL f (n+1)=tL f n+if f n≠jG then 1 else 0:=by grind[tL,range_succ]
theorem ahH:∀(n:Nat),n<=y->tL (v7 f y x) n=tL f n
 | 0,_=>rfl
 | n+1,h=>by have h1:v7 f y x n=f n:=if_neg (by omega);rw[Ny,Ny,ahH n (by omega),h1]
theorem ahI:∀(n:Nat),y<n->tL (v7 f y x) n+(if f y≠jG then 1 else 0)=tL f n+(if x≠jG then 1 else 0)
 | 0,h=>by omega
 | n+1,h=>by
  rw[Ny,Ny];by_cases e:y=n;subst e;rw[ahH y (Nat.le_refl _)];have:v7 f y x y=x:=if_pos rfl
  grind
  have:=ahI n (show y<n by omega);have h1:v7 f y x n=f n:=if_neg (by omega)
  grind
theorem aAN(h:∀i,i<n->f i=jG):tL f n=0:=by simp_all[tL]
theorem ahJ:tL f n<=n:=by grind[tL,length_range]
theorem ahK(he:w.bj=0)(al:w.cC=1):w.step=(true,w.kq):=by simp_all[bA.step]
theorem aAO(he:w.bj=0)(al:w.cC=2)(ao:w.fy=x::xs):w.step=(true,w.fill x xs):=by simp_all[bA.step]
theorem gT.congr(h:gT w n aC f g){yM:Nat->List Int}(hf:∀i,i<n->f i=yM i):gT w n aC yM g:=⟨h.n2,h.dt,h.cP,h.dM,h.dx,h.kt,h.ig,h.jZ,h.k9,h.iz,fun i an=>(h.f i an).trans (hf i an),h.g⟩
end J
namespace J
open Go Go.Ab
variable[cu:b0]
variable{d eM:bK}{m:br}{b:List Int}{n k e:Nat}{w:bA}{aC:Int}{f g:Nat->List Int}{aR:ib}{q:List ib}
theorem Uj(he:w.bj=0)(al:w.cC=0\/w.cC=2)(ao:w.fy=[])(bY:w.q=aR::q):w.step=(true,({w with q:=q}:bA).iJ aR):=by
 unfold bA.step
 grind
theorem ahL(he:w.bj=0)(al:w.cC=0\/w.cC=2)(ao:w.fy=[])(bY:w.q=[]):w.step=(false,w):=by
 unfold bA.step
 grind
theorem aAP(al:w.cC=4):w.step=(false,w):=by simp_all[bA.step]
theorem Uk(he:w.bj=0)(al:w.cC=3):w.step=(true,w.kF):=by simp_all[bA.step]
theorem aAQ{aq:List Cell}{z:Nat×List Int}{j:Nat}:((uD aq z).getD j iW).eR=(aq.getD j iW).eR:=by grind[uD]
theorem ahM:∀(l:List (Nat×List Int)) (aq:List Cell) (j:Nat),((kb aq l).getD j iW).eR=(aq.getD j iW).eR
 | [],_,_=>rfl
 | z::l,aq,j=>(ahM l (uD aq z) j).trans aAQ
theorem ahN(bf:d.gm=false)(ak:d.gK=-1):d.jH=({d.step with cells:=kb d.cells d.done,done:=[]},0):=by simp_all[bK.jH,Uf]
structure aAR (d eM:bK):Prop where
 eb:∀j,eb eM j=eb d j
 done:eM.done=[]
 len:eM.cells.length=d.cells.length
 jZ:eM.gm=false
 k9:eM.gK=-1
 iz:eM.iz=d.iz
theorem ahO(bf:d.gm=false)(ak:d.gK=-1):d.jH.2=0/\aAR d d.jH.1:=by rw[ahN bf ak];exact⟨rfl,fun j=>ahM _ _ _,rfl,C9 _ _,Uf bf (by omega),(Nw (by omega)).trans ak,rfl⟩
theorem Gg{α:Type}:∀(l:List Nat) {f g:Nat->List α},(∀i∈l,f i=g i)->l.flatMap f=l.flatMap g
 | [],_,_,_=>rfl
 | a::l,f,g,h=>by rw[flatMap_cons,flatMap_cons,h a mem_cons_self,Gg l fun i an=>h i (mem_cons_of_mem _ an)]
theorem gT.all(h:gT w n aC f g):w.m.all aC=(List.range n).flatMap f:=by
 have al:mw n n aC=n:=ys;unfold br.all br.xg;rw[DB h.ig h.kt,al];refine Gg _ fun i an=>?_
 rw[DE h.ig h.kt (by simp_all)];exact h.f i (mem_range.1 an)
theorem Nz(h:l4 aC):l4 (1-aC):=by rcases h with e|e<;>subst e;exact .inr rfl;exact .inl rfl
theorem gT.mA(h:gT w n aC f g):w.m.all (1-aC)=(List.range n).flatMap g:=by
 have al:mw n n (1-aC)=n:=ys;unfold br.all br.xg;rw[DB h.ig (Nz h.kt),al];refine Gg _ fun i an=>?_
 rw[DE h.ig (Nz h.kt) (by simp_all)];exact h.g i (mem_range.1 an)
def qv(b:List Int)(i:Nat):List Int:=tK ((b.drop (64*i)).take 64)
theorem Ul:∀k,64*k<=b.length->(List.range k).flatMap (qv b)=b.take (64*k)
 | 0,_=>by rfl
 | k+1,h=>by rw[range_succ,flatMap_append,Ul k (by omega),flatMap_cons,flatMap_nil,append_nil];unfold qv tK;rw[length_take,length_drop,Nat.min_eq_left (by omega),Nat.sub_self,replicate_zero,append_nil,show 64*(k+1)=64*k+64 by omega,take_add]
theorem aAS:(List.range (hq b.length)).flatMap (qv b)=b++List.replicate (64*hq b.length-b.length) 255:=by
 unfold hq;have aO:=div_add_mod b.length 64;have hm:=mod_lt b.length (show 0<64 by omega);generalize bY:b.length/64=q at*;by_cases aJ:b.length%64=0;rw[show(b.length+63)/64=q by omega,Ul q (by omega),take_of_length_le (by omega),show 64*q-b.length=0 by omega,replicate_zero,append_nil];rw[show(b.length+63)/64=q+1 by omega,range_succ,flatMap_append,Ul q (by omega),flatMap_cons,flatMap_nil,append_nil];unfold qv tK;have aD:((b.drop (64*q)).take 64)=b.drop (64*q):=take_of_length_le (by grind);rw[aD,<- append_assoc,take_append_drop,length_drop]
 grind
def uQ(b:List Int)(hr:Nat)(i:Nat):List Int:=if i<hr then qv b i else jG
theorem ahP:∀t,(List.range (hq b.length+t)).flatMap (uQ b (hq b.length))=b++List.replicate (64*(hq b.length+t)-b.length) 255
 | 0=>by rw[Nat.add_zero,<- aAS];exact Gg _ fun i an=>if_pos (mem_range.1 an)
 | t+1=>by
  rw[<- Nat.add_assoc,range_succ,flatMap_append,ahP t,flatMap_cons,flatMap_nil,append_nil];have:uQ b (hq b.length) (hq b.length+t)=List.replicate 64 255:=if_neg (by omega)
  grind[hq,replicate_append_replicate]
theorem ahQ(h:hq b.length<=n):(List.range n).flatMap (uQ b (hq b.length))=b++List.replicate (64*n-b.length) 255:=by
 have:=ahP (b:=b) (n-hq b.length)
 simp_all
end J
namespace J
open Go Go.Ab
variable[cu:b0]
variable{m:br}{x b:List Int}{xs:List (List Int)}{k:Nat}{w dT:bA}{aR:ib}{q:List ib}{aK:da}{b5:Int}
theorem aAT{a l:Nat}(bn:64*a+l<=b.length)(he:l%64=0\/64*a+l=b.length)(ah:k<hq l):tK ((((b.drop (64*a)).take l).drop (64*k)).take 64)=qv b (a+k):=by grind[qv,hq,drop_take,drop_drop,take_of_length_le]
theorem Um{N:Nat}{F:br->br×Int}(h:w.m.gB N)(hf:∀m,m.gB N->(F m).1.gB (N+1)):(w.put (w.s.as w.m w.cy F)).m.gB (N+1):=azP h hf
theorem aAU{N:Nat}(h:w.m.gB N):w.step.2.m.gB (N+1):=by
 have h1:w.m.gB (N+1):=h.mono (by omega);unfold bA.step;split;exact h1;split;show w.kq.m.gB _;unfold bA.kq;split;exact Um h fun m hm=>br.avp hm
 exact h1;split;show w.kF.m.gB _;have al:w.oY.m.gB (N+1):=Um h fun m hm=>(br.aeP hm).mono (by omega)
 unfold bA.kF;split;exact al;split<;>exact al;split;rename_i x xs _;show(w.fill x xs).m.gB _;have al:(w.rj x).m.gB (N+1):=Um h fun m hm=>br.aeO hm
 unfold bA.fill;split<;>exact al;split;exact h1;rename_i aR q _;have:∀dT:bA,(dT.iJ aR).m=dT.m:=by
  intro dT;unfold bA.iJ
  grind[bA.xq,bA.body]
 show(({w with q:=q}:bA).iJ aR).m.gB _;rw[this];exact h1
theorem aAV(h:0<=w.aS.cT)(aR:ib):0<=(w.iJ aR).aS.cT:=by
 unfold bA.iJ;by_cases aJ:w.cC=0;rw[if_pos aJ];cases aR with
 | mN b5 aK=>
  show 0<=(w.xq aK).aS.cT;unfold bA.xq;by_cases U:eG aK;rw[if_neg (by simp[U])];split;exact h;obtain⟨_,_,_,mF,_⟩:=U
  grind
  simp_all
 | hF a=>exact h
 | body a c=>exact h
 | dy=>exact h
 rw[if_neg aJ]
 grind[bA.body]
theorem aAW(h:0<=w.aS.cT):0<=w.step.2.aS.cT:=by
 unfold bA.step;split;exact h;split;show 0<=w.kq.aS.cT;unfold bA.kq;split<;>exact h;split;show 0<=w.kF.aS.cT;unfold bA.kF;split;exact h;split<;>exact h;split;rename_i x xs _;show 0<=(w.fill x xs).aS.cT;unfold bA.fill;split<;>exact h;split;exact h
 simp_all[aAV]
end J
namespace J
open Go Go.Ab
variable[cu:b0]
variable{H:au}{S F X N:List (Nat×ax)}{aa:VH}{c:Nat}{m:da}{w:bA}{B dG:jP}{b:List Int}{cF:List UInt8}
theorem ahR{cV:Nat}{aF:Int}(aU:ra cF=0)(ej:1<=cV)(ec:cV<=281474976710656)(b1:1<=b.length)(b2:b.length<=65536)(dg:64<=aF)(cr:aF<=1024)(fJ:aF%64=0)(aB:l2 b.length aF<=64):eG (lN cF cV aF b):=by
 have aJ:0<=l2 b.length aF:=SM;refine⟨aU,ej,ec,?_,?_,dg,cr,fJ,?_,?_⟩;show(1:Int)<=((b.length:Nat):Int);omega;show((b.length:Nat):Int)<=65536;omega;unfold lN;rw[BF];show _=l2 ((b.length:Nat):Int) aF;omega
 simp_all[lN,BF]
def hi:List UInt8:=[99,111,114,101]
theorem Un:ra hi=0:=by rfl
theorem aAX{N:Nat}(aX:ks S w B)(fc:0<=w.aS.cT)(hm:w.m.gB N)(nw:N<=1000000)(hO:ke H S F w B)(ah:∀ab dG X,B.et dG->ks (S++X) w.step.2 dG->0<=w.step.2.aS.cT->w.step.2.m.gB (N+1)->ke ab (S++X) F w.step.2 dG->aa (.bool w.step.1) ab):ay P 66 [ai B.c 0] H aa:=
 aAs aX fc (hm.mono nw) hO fun ab dG X h1 h2 h3=>ah ab dG X h1 h2 (aAW fc) (aAU hm) h3
end J
namespace J
open Go Go.Ab
variable[cu:b0]
variable{H:au}{aa:VH}{ae:List (Nat×ax)}
abbrev lO(fG kY:Int)(s n:Nat):ax:=⟨[int fG,int kY,aC s 0 n 3],true⟩
abbrev lP(l:List Int):ax:=⟨l.map int,true⟩
section
variable{d s n:Nat}{fG kY x:Int}{l:List Int}
theorem aAY(hO:aj H ae)(i:Nat)(an:ae[i]?=some (d,lO fG kY s n))(ah:aa (.bool (decide (0<=x/\x<n))) H):ay P 190 [ai d 0,int x] H aa:=by
 apply asX;unfold acO
 repeat refine bH ?_
 refine bF (fun h=>?_) (fun h=>?_)
 repeat refine bH ?_
 refine aY hO i an rfl ?_
 repeat (first|refine bH ?_|refine tq ?_)
 rw[show decide (0<=x/\x<n)=decide (x<n) by simp[h]]at ah;exact ah
 repeat refine bH ?_
 rw[show decide (0<=x/\x<n)=false by simp[h]]at ah;exact ah
theorem ahS(l:List Int)(x:Int)(h:0<=x/\x<l.length):(l.map int)[0+x.toNat*1]?=some (int (l.getD x.toNat 0)):=by simp_all
def BH(l:List Int):Int:=l.foldl max (l.getD 0 0)
theorem aAZ{c:Nat}{wr:Bool}(hO:aj H ae)(j:Nat)(bm:ae[j]?=some (s,⟨l.map int,wr⟩))(aD:0<l.length)(q7:l.length<=1000)(ah:aa (int (BH l)) H):ay P 152 [aC s 0 l.length c] H aa:=by
 apply asI;unfold acy;refine AL ?_
 repeat (first|refine bH ?_|refine tq ?_|refine w4 ?_)
 refine aY hO j bm (ahS l 0 (by omega)) ?_
 try simp only[cj,ck]
 refine asH (fun k aA ab=>ab=H/\∃i:Nat,1<=i/\i<=l.length/\k=l.length-i/\∃v,aA=[aC s 0 l.length c,v,int ((l.take i).foldl max (l.getD 0 0)),int i]) _ _ ?_ (l.length-1) _ _ ⟨rfl,1,by omega,by omega,rfl,int 0,?_⟩;rintro k aA ab ⟨rfl,i,h1,h2,rfl,v,rfl⟩;unfold acx
 try simp only[cj,ck]
 repeat (first|refine bH ?_|refine tq ?_)
 refine bF (fun h=>?_) (fun h=>?_)
 repeat refine bH ?_
 refine aY hO j bm (ahS l i (by omega)) ?_
 repeat (first|refine bH ?_|refine tq ?_)
 refine⟨_,?_,rfl,i+1,by omega,by omega,rfl,v,?_⟩;omega;have an:i<l.length:=by omega
 rw[take_succ_eq_append_getElem an,foldl_append]
 simp_all
 have e:i=l.length:=by omega
 subst e
 repeat refine CR ?_
 rw[take_of_length_le (Nat.le_refl _)];exact ah;cases l with
 | nil=>rfl
 | cons a r=>simp
theorem ahT{n s:Nat}:(lO fG kY s n).cells.all fY=true:=rfl
theorem aA0(ak:∀y∈l,0<=y/\y<=fG)(aD:0<l.length):0<=BH l/\BH l<=fG:=by
 have key:∀(r:List Int) (a:Int),0<=a/\a<=fG->(∀y∈r,0<=y/\y<=fG)->0<=r.foldl max a/\r.foldl max a<=fG:=by
  intro r;induction r with
  | nil=>simp_all
  | cons x r bg=>
   intro a h U;have ao:=U x (by simp);refine bg _ ⟨?_,?_⟩ fun y ba=>U y (by simp[ba])
   omega;omega
 cases l with
 | nil=>simp at aD
 | cons a r=>exact key _ _ (ak _ (by simp)) ak
theorem aA1(hO:aj H ae)(i j:Nat)(an:ae[i]?=some (d,lO fG kY s l.length))(bm:ae[j]?=some (s,lP l))(aD:0<l.length)(q7:l.length<=1000)(ak:∀y∈l,0<=y/\y<=fG)(Uo:fG<=1099511627776)
  (ah:aa (int (fG-BH l)) H):ay P 84 [ai d 0] H aa:=by
 have hm:=aA0 ak aD;apply arR;unfold abC
 repeat refine bH ?_
 refine aY hO i an rfl ?_
 repeat refine bH ?_
 refine aY hO i an rfl (aAZ hO j bm aD q7 (⟨ho hO i an hO i an ahT,?_⟩))
 repeat refine bH ?_
 exact ah
theorem aA2(hO:aj H ae)(i j:Nat)(an:ae[i]?=some (d,lO fG kY s l.length))(bm:ae[j]?=some (s,lP l))(aD:0<l.length)(q7:l.length<=1000)(ak:∀y∈l,0<=y/\y<=fG)(Uo:fG<=1099511627776)
  (ah:aa (int (if kY<=fG-BH l then 221 else 0)) H):ay P 125 [ai d 0] H aa:=by
 apply asb;unfold abY;refine aA1 hO i j an bm aD q7 ak Uo ?_
 repeat refine bH ?_
 refine aY hO i an rfl (⟨ho hO i an hO i an ahT,?_⟩)
 repeat refine bH ?_
 refine bF (fun h=>?_) (fun h=>?_);rw[if_pos h]at ah;exact ah;rw[if_neg h]at ah;exact ah
theorem aA3(hO:aj H ae)(i:Nat)(an:ae[i]?=some (d,lO fG kY s n))(aJ:0<=fG)(Uo:fG<=1099511627776)
  (ah:∀ab,aj ab (ae.set i (d,lO (fG+max 0 (min x (1099511627776-fG))) kY s n))->aa (.tuple #[]) ab):ay P 75 [ai d 0,int x] H aa:=by
 apply arI;unfold abt
 repeat refine bH ?_
 refine aY hO i an rfl ?_
 repeat refine bH ?_
 refine aY hO i an rfl ?_
 repeat (first|refine bH ?_|refine tq ?_)
 refine fR hO i an rfl (by simp) rfl ?_;intro ab ju;exact ah ab ju
theorem aA4(hO:aj H ae)(i j:Nat)(an:ae[i]?=some (d,lO fG kY s l.length))(bm:ae[j]?=some (s,lP l))
  (ah:∀ab,aj ab (ae.set j (s,lP (if 0<=x/\x<l.length then l.set x.toNat fG else l)))->aa (.bool (decide (0<=x/\x<l.length))) ab):ay P 133 [ai d 0,int x] H aa:=by
 apply asl;unfold ab5;refine aAY hO i an ?_;by_cases h:0<=x/\x<(l.length:Int);rw[if_pos h,decide_eq_true h]at ah;rw[decide_eq_true h]
 repeat (first|refine bH ?_|refine x9 ?_)
 refine aY hO i an rfl ?_
 repeat refine bH ?_
 refine aY hO i an rfl ?_
 repeat refine bH ?_
 have e:(l.map int).set (0+x.toNat*1) (int fG)=(l.set x.toNat fG).map int:=by simp_all
 refine fR hO j bm rfl (by grind) e ?_;intro ab ju;exact ah ab ju;rw[if_neg h,decide_eq_false h]at ah;rw[decide_eq_false h]
 repeat (first|refine bH ?_|refine kA ?_)
 refine ah H ?_;rw[show ae.set j (s,lP l)=ae from ?_];exact hO;apply ext_getElem?
 grind
theorem aA5:rD P 48=⟨u6 1 8 [int 0]⟩:=by rfl
theorem aA6(a:Int)(x:Option Addr)(n c:Nat):(dq P 266).f [(1,.int .i64 a),(2,.slice x n c)]=some (.agg #[.int .i64 0,.int .i64 a,.slice x n c]):=by rfl
theorem aA7{ahU gx:Int}(hO:aj H ae)
  (ah:∀s d ab,aj ab (ae++[(s,lP (List.replicate (max 1 (min gx 8)).toNat 0)),(d,lO 0 (max 1 (min ahU 1000000)) s (max 1 (min gx 8)).toNat)])->aa (ai d 0) ab):ay P 83 [int ahU,int gx] H aa:=by
 apply arQ;unfold abB
 repeat refine tq ?_
 rw[aA5];have e:max 1 (min gx 8)=((max 1 (min gx 8)).toNat:Int):=by omega
 have bt:(max 1 (min gx 8)).toNat<=8:=by omega
 rw[e];generalize (max 1 (min gx 8)).toNat=w at*;refine HG (k:=.i64) (e6:=.i64) hO (by omega) (by omega) ?_;intro s H hO;rw[aA6];refine ag rfl (dH hO ?_);intro d H hO;rw[anI,append_assoc]at hO;refine ah s d H ?_;rw[show(lP (List.replicate w 0))=⟨List.replicate w (int 0),true⟩ by simp[lP]];exact hO
end
end J
namespace J
open Go Go.Ab
structure lQ where
 jS:Int
 vq:Int
 v:Nat
abbrev qw:=List (List UInt8×List Int)
def v8:qw->List UInt8->Option (List Int)
 | [],_=>none
 | o::r,k=>if o.1=k then some o.2 else v8 r k
def zN(jR:qw)(o:List UInt8×List Int):qw:=if v8 jR (kc o.1)=none/\ra o.1=0 then jR++[(kc o.1,o.2)]else jR
def BI(l:qw):qw:=l.foldl zN []
structure gU where
 off:qw
 bb:List lQ
 dk:Nat
def ow(b:List Int)(a hr:Int):List Int:=if a<0\/(b.length:Int)<=a\/hr<1 then []else(b.drop a.toNat).take hr.toNat
def gU.next(n:gU):lQ×List lQ:=match n.bb with
 | []=>(⟨0,0,0⟩,[])
 | f::r=>(f,r)
def ahV(b:List Int)(f:lQ):List Int:=if b=[]then b else b.set ((max f.vq 0).toNat%b.length) ((((b.getD ((max f.vq 0).toNat%b.length) 0).toNat ^^^ f.v):Nat):Int)
def qx(all:List Int)(a hr:Int)(f:lQ):List Int×Int:=
 if f.jS=1 then([],181)
 else if f.jS=2 then(ahV (ow all a hr) f,0)
 else if f.jS=3 then((ow all a hr).take (max 0 (min f.vq (ow all a hr).length)).toNat,0)
 else if f.jS=4 then(ow all f.vq hr,0)
 else(ow all a hr,0)
def gU.mx(n:gU)(ff:List UInt8)(a hr:Int):(List Int×Int)×gU:=match v8 n.off (kc ff)with
 | none=>(([],182),n)
 | some zq=>(qx zq a hr n.next.1,{n with bb:=n.next.2,dk:=n.dk+1})
structure dE where
 ff:List UInt8
 left:Nat
 du:Option (Int×da)
 ee:Int
 bj:Int
def dE.try(l:dE):Bool×dE:=if l.left=0 then(false,{l with bj:=191})else(true,{l with left:=l.left-1})
def dE.p1(l:dE)(a:Int):Bool:=match l.du with
 | none=>decide (a=-1)
 | some (_,m)=>decide (0<=a/\a<m.aN.length)
def dE.follow(l:dE)(s:ib):dE:=match s with
 | .hF a=>if l.p1 a=false then {l with bj:=192}else if l.left=0 then {l with bj:=191}else {l with left:=l.left-1,ee:=a}
 | .mN n m=>if l.du.isSome=true\/¬eG m\/n<0\/n>2304 then {l with bj:=192}else {l with du:=some (n,m),ee:=0}
 | _=>{l with bj:=192}
def dE.jA(l:dE):Int×Int:=if l.ee=-1 then(0,2304)else match l.du with
 | none=>(0,0)
 | some (n,m)=>(n+(gy m l.ee).1,(gy m l.ee).2)
def dE.on(l:dE):dE:=match l.du with
 | none=>{l with ee:=-2}
 | some (_,m)=>if l.ee+1=m.aN.length then {l with ee:=-2}else {l with ee:=l.ee+1}
def hj(n:Nat)(l:dE)(bw:List (Int×List Int))(cA:List ib)(aR:gU):Bool×dE×List (Int×List Int)×List ib×gU:=
 if l.bj≠0 then(false,l,bw,cA,aR)
 else match cA with
  | s::r=>(true,l.follow s,bw,r,aR)
  | []=>if l.ee=-2\/bw.length=n then(false,l,bw,[],aR)
   else match aR.mx l.ff l.jA.1 l.jA.2 with
    |((b,e),ox)=>if e=0 then(true,l.on,bw++[(l.ee,b)],[],ox)
     else if e=181 then(true,l.try.2,bw,[],ox)
     else(true,{l with bj:=e},bw,[],ox)
structure tM where
 fG:Int
 kY:Int
 eR:List Int
def tM.sd(d:tM)(i:Nat):tM:={d with eR:=d.eR.set i d.fG}
def tM.Gc(d:tM):Int:=d.fG-BH d.eR
def tM.p2(d:tM)(n:Int):tM:={d with fG:=d.fG+max 0 (min n (1099511627776-d.fG))}
structure bX where
 l:dE
 c:eg
 w:bA
 aR:gU
 d:tM
 st:Int
 fg:Int
def bX.lH(p:bX)(st fg:Int):bX:={p with st:=st,fg:=fg,w:={p.w with s:=p.w.s.drop p.w.cy}}
def bX.hG(p:bX)(ct:Nat)(hG:Bool)(e:Int)(done:Bool):Bool×bX:=
 let q:bX:=if hG then {p with d:=p.d.sd ct}else p
 (hG,if e≠0 then q.lH 3 e else if done then q.lH 2 0 else q)
def bX.Gh(p:bX):Bool×bX:=match hj p.c.bz p.l p.c.dB p.c.cA p.aR with
 |(b,l,bw,cA,aR)=>({p with l:=l,c:={p.c with dB:=bw,cA:=cA},aR:=aR}:bX).hG 0 b l.bj false
def bX.iu(p:bX):Bool×bX:=({p with c:=p.c.step.2}:bX).hG 1 p.c.step.1 p.c.step.2.bj false
def bX.zO(p:bX):Bool×bX:=
 let r:=({p.w with q:=p.c.eB}:bA).step
 ({p with w:=r.2,c:={p.c with eB:=r.2.q}}:bX).hG 2 r.1 r.2.bj (decide (r.2.cC=4))
def bX.uR(p:bX):Bool×bX:=if p.d.kY<=p.d.Gc then(true,p.lH 3 221)else(false,p)
def bX.step(p:bX)(ct:Int):Bool×bX:=
 if p.st≠1 then(false,p)
 else if ct=3 then p.uR
 else if ct=0 then p.Gh
 else if ct=1 then p.iu
 else if ct=2 then p.zO
 else(false,p)
def bX.p2(p:bX)(n:Int):bX:=if p.st=1 then {p with d:=p.d.p2 n}else p
end J
namespace J
open Go Go.Ab
variable[cu:b0]
variable{H:au}{ae S F X:List (Nat×ax)}{aa:VH}{v aZ kv:Value}{aq bE:List Value}{p q o i j aR r1 r2 dz g:Nat}{e a:Int}{l:dE}{m:da}
def gV(aR r1 r2:Nat)(l:dE)(kv:Value):List Value:=[ai aR 0,bS l.ff,int l.left,ai r1 0,ai r2 0,kv,int l.ee,int l.bj]
def xt(S:List (Nat×ax))(kv:Value):Option (Int×da)->Prop
 | none=>kv=.pointer none
 | some (h,m)=>∃(g j:Nat) (aZ:Value),kv=ai g 0/\S[j]?=some (g,⟨int h::bN m aZ,true⟩)/\e8 S aZ m.aN/\m.b4
theorem xt.app{x:Option (Int×da)}(h:xt S kv x):xt (S++X) kv x:=by
 cases x with
 | none=>exact h
 | some y=>obtain⟨g,j,aZ,h1,h2,h3,aG⟩:=h;exact⟨g,j,aZ,h1,aL h2,h3.app,aG⟩
theorem xt.fh{x:Option (Int×da)}(h:xt S kv x):eL kv=true:=by
 cases x with
 | none=>rw[show kv=.pointer none from h];rfl
 | some y=>obtain⟨g,j,aZ,rfl,_⟩:=h;rfl
theorem NA(hO:aj H ae){b di:ax}(an:ae[i]?=some (p,b))(bm:ae[j]?=some (q,di))(qM:i≠j):p≠q:=by
 intro e;subst e;have aU:=hO.tk;have h1:(ae.map (·.1))[i]?=some p:=by simp_all
 have h2:(ae.map (·.1))[j]?=some p:=by simp_all
 grind[List.getElem?_inj]
theorem ahW{x:Nat}:∀ {l:List Nat},(∀y∈l,x≠y)->s5 x l=false:=by grind[s5,kH,eq_of_beq_eq_true]
theorem aA8{o:Nat}{l:List Value}(h:∀i∈cm l,p≠i):qh (cm [ai p o]) (cm l):=by unfold qh oK;show cond (not (s5 p (cm l))) true false=true;rw[ahW h];rfl
theorem uS{v:Value}(hO:aj H (ae++[(p,⟨aq,true⟩)]))(h1:eL v=true)(aU:o<aq.length)(aB:aq.set o v=bE)(ah:∀ab,aj ab (ae++[(p,⟨bE,true⟩)])->aa undef ab):af (bx 1 (ai p o) v H) aa:=
 fR hO (ae.length+0) (az rfl) h1 aU aB fun ab h=>ah ab (by rw[Go.Ab.cD]at h;exact h)
theorem zP(hO:aj H (ae++[(p,⟨aq,true⟩)]))(hv:aq[o]?=some v)(ah:aa v H):af (aw (ai p o) H) aa:=aY hO (ae.length+0) (az rfl) hv ah
theorem ahX(c:Bool):(ar P .eql 242 c).f (.pointer none) (.pointer none)=some (.bool true):=by rfl
theorem ahY(c:Bool)(p:Nat):(ar P .eql 242 c).f (ai p 0) (.pointer none)=some (.bool false):=by rfl
theorem aA9(c:Bool):(ar P .neq 242 c).f (.pointer none) (.pointer none)=some (.bool false):=by rfl
theorem aBa(c:Bool)(p:Nat):(ar P .neq 242 c).f (ai p 0) (.pointer none)=some (.bool true):=by rfl
theorem aBb(x:Value):ng 313 (iL P 313) (.iface 313 x)=some (.tuple #[x,.bool true]):=by rfl
theorem aBc(x:Value):ng 313 (iL P 313) (.iface 316 x)=some (.tuple #[agg [int 0],.bool false]):=by rfl
theorem aBd(x:Value):ng 313 (iL P 313) (.iface 327 x)=some (.tuple #[agg [int 0],.bool false]):=by rfl
theorem aBe(x:Value):ng 313 (iL P 313) (.iface 320 x)=some (.tuple #[agg [int 0],.bool false]):=by rfl
theorem NB:df P 313=[int 0]:=by rfl
theorem ahZ(aD:l.left<=1000)(hO:aj H (ae++[(dz,⟨gV aR r1 r2 l kv,true⟩)]))(ah:∀ab,aj ab (ae++[(dz,⟨gV aR r1 r2 l.try.2 kv,true⟩)])->aa (.bool l.try.1) ab):ay P 132 [ai dz 0] H aa:=by apply asj;unfold ab4;unfold dE.try at ah;refine aV (zP hO (v:=int l.left) rfl (ag e2 (bF (fun h=>?_) (fun h=>?_))));rw[if_pos (by omega)]at ah;exact aV (uS hO rfl (show 7<8 by omega) rfl ah);rw[if_neg (by omega)]at ah;exact aV (zP hO (v:=int l.left) rfl (ag (v:=int ((l.left-1:Nat):Int)) (by grind[ob]) (aV (uS hO rfl (show 2<8 by omega) rfl ah))))
theorem aBf(gF:xt S kv l.du)(hO:aj H ((S++F)++[(dz,⟨gV aR r1 r2 l kv,true⟩)]))(ah:aa (.bool (l.p1 a)) H):ay P 185 [ai dz 0,int a] H aa:=by
 apply asS;unfold acJ;unfold dE.p1 at ah;refine aV (zP hO (v:=kv) rfl ?_);cases ao:l.du with
 | none=>rw[ao]at gF ah;rw[show kv=.pointer none from gF];exact ag (ahX _) (eT rfl (ag e2 ah))
 | some y=>obtain⟨h,m⟩:=y;rw[ao]at gF ah;obtain⟨g,j,aZ,rfl,bm,js,ok⟩:=gF;refine ag (ahY _ _) (dP rfl (ag um (bF (fun aJ=>?_) (fun aJ=>?_))));refine aV (zP hO (v:=ai g 0) rfl (aV (ag b7 (aY hO j (aL (aL bm)) (v:=aZ) (by show(bN m aZ)[0+36]?=_;exact sP ok.dh) (bW js.bO (ag fr (ag (gA aJ) ?_)))))));simp only[aJ,true_and]at ah;exact ah;refine ag (gP aJ) ?_;simp only[aJ,false_and,decide_false]at ah;exact ah
theorem aBg(gF:xt S kv l.du)(aM:-2<=l.ee/\l.ee<=1000)(hO:aj H ((S++F)++[(dz,⟨gV aR r1 r2 l kv,true⟩)]))(ah:∀ab,aj ab ((S++F)++[(dz,⟨gV aR r1 r2 l.on kv,true⟩)])->aa (.tuple [].toArray) ab):ay P 131 [ai dz 0] H aa:=by
 apply asi;unfold ab3;unfold dE.on at ah;refine aV (zP hO (v:=int l.ee) rfl (ag (v:=int (l.ee+1)) (jg (by omega) (by omega)) (aV (uS hO rfl (show 6<8 by omega) (bE:=gV aR r1 r2 {l with ee:=l.ee+1} kv) rfl ?_))));intro H hO;refine e3 (fun aA ab=>ab=H/\aA=[ai dz 0,.bool (match l.du with|none=>true|some (_,m)=>decide (l.ee+1=m.aN.length))]) ?_ ?_;refine aV (zP hO (v:=kv) rfl ?_);cases ao:l.du with
 | none=>rw[ao]at gF;rw[show kv=.pointer none from gF];exact ag (ahX _) (eT rfl (ag j9 (⟨rfl,rfl⟩)))
 | some y=>obtain⟨h,m⟩:=y;rw[ao]at gF;obtain⟨g,j,aZ,rfl,bm,js,ok⟩:=gF;exact ag (ahY _ _) (dP rfl (aV (zP hO (v:=int (l.ee+1)) rfl (aV (zP hO (v:=ai g 0) rfl (aV (ag b7 (aY hO j (aL (aL bm)) (v:=aZ) (by show(bN m aZ)[0+36]?=_;exact sP ok.dh) (bW js.bO (ag e2 (ag km (⟨rfl,rfl⟩))))))))))))
 rintro aA ab ⟨rfl,rfl⟩
 try simp only[cj,ck]
 cases ao:l.du with
 | none=>rw[ao]at ah;exact eT rfl (aV (uS hO rfl (show 6<8 by omega) rfl ah))
 | some y=>obtain⟨h,m⟩:=y;rw[ao]at ah;simp only at ah;refine bF (fun aB=>?_) (fun aB=>?_);rw[if_pos aB]at ah;exact aV (uS hO rfl (show 6<8 by omega) rfl ah);rw[if_neg aB]at ah;exact ah ab hO
end J
namespace J
open Go Go.Ab
variable[cu:b0]
variable{H:au}{jz b9 S F X N:List (Nat×ax)}{aa:VH}{v aZ kv:Value}{aq bE:List Value}{k j aR r1 r2 dz g:Nat}{a b5:Int}{l:dE}{eb:ib}{m aK:da}
theorem I1(h:aj H (((S++F)++jz)++N)):aj H ((S++(F++N))++jz):=h.fj (by rw[append_assoc,<- append_assoc S F N,append_assoc (S++F) N jz];exact List.Perm.append_left (S++F) perm_append_comm)
theorem BJ(h:aj H ((S++(F++N))++jz)):aj H ((S++F)++jz):=h.sub (by refine List.Sublist.append_right ?_ jz;exact List.Sublist.append_left (sublist_append_left F N) S)
theorem ah0(h:aj H (((S++F)++jz)++N)):aj H (((S++N)++F)++jz):=h.fj (by rw[append_assoc S N F,append_assoc S (N++F) jz,append_assoc,append_assoc S F (jz++N)];refine List.Perm.append_left S ?_;rw[<- append_assoc F jz N,append_assoc N F jz];exact perm_append_comm)
theorem aBh(gF:xt S kv l.du)(aD:l.left<=1000)(aU:xk S eb [v])(hO:aj H ((S++F)++[(dz,⟨gV aR r1 r2 l kv,true⟩)]))
  (ah:∀ab yu X,xt (S++X) yu (l.follow eb).du->aj ab (((S++X)++F)++[(dz,⟨gV aR r1 r2 (l.follow eb) yu,true⟩)])->aa (.tuple [].toArray) ab):ay P 127 [ai dz 0,v] H aa:=by
 apply ase;unfold RM;refine dH hO ?_;intro bp H hO
 replace hO:aj H ((S++(F++[(bp,⟨[ai dz 0],true⟩)]))++[(dz,⟨gV aR r1 r2 l kv,true⟩)]):=I1 hO
 have h2:∀ {h8:List (Nat×ax)} {sV b9},((h8++((F++[(bp,(⟨[ai dz 0],true⟩:ax))])++sV))++b9)[h8.length+(F.length+0)]?=some (bp,⟨[ai dz 0],true⟩):=aL (az (aL (az rfl)));have iX:∀ {H:au} {sV X},aj H (((S++X)++((F++[(bp,(⟨[ai dz 0],true⟩:ax))])++sV))++[(dz,⟨gV aR r1 r2 l kv,true⟩)])->l.follow eb={l with bj:=192}->af (aw (ai bp 0) H) fun T7 T8=>
   ad (pG T7) fun T9=>ad (bG 7 T9) fun t46=>af (bx 1 t46 (.int .i64 192) T8) fun Ua Ub=>aa (.tuple [].toArray) Ub:=by
  intro H sV X hO he;refine aY hO _ h2 (v:=ai dz 0) rfl (aV (uS hO rfl (show 7<8 by omega) (bE:=gV aR r1 r2 {l with bj:=192} kv) rfl ?_));intro ab ju;rw[he]at ah;exact ah ab kv X gF.app (BJ (BJ ju))
 have aG:∀ {h8:List (Nat×ax)} {c1:Nat} {iy:List Value} {b9},((h8++((F++[(bp,(⟨[ai dz 0],true⟩:ax))])++[(c1,(⟨iy,true⟩:ax))]))++b9)[h8.length+((F++[(bp,(⟨[ai dz 0],true⟩:ax))]).length+0)]?=some (c1,⟨iy,true⟩):=aL (az (az rfl));cases eb with
 | hF a=>
  have aU:[v]=[.iface 313 (agg [int a])]:=aU;injection aU with aU _
  subst aU;refine ag (aBb _) (ag (show _=some (agg [int a])from rfl) (ag (show _=some (Value.bool true)from rfl) ?_));rw[NB];refine dH hO ?_;intro c1 H hO;refine fT hO (_+0) (az rfl) rfl rfl rfl ?_;intro H hO
  replace hO:=I1 hO.cD
  replace hO:aj H ((S++((F++[(bp,⟨[ai dz 0],true⟩)])++[(c1,⟨[int a],true⟩)]))++[(dz,⟨gV aR r1 r2 l kv,true⟩)]):=hO
  have aBi:aj H (((S++[])++((F++[(bp,⟨[ai dz 0],true⟩)])++[(c1,⟨[int a],true⟩)]))++[(dz,⟨gV aR r1 r2 l kv,true⟩)]):=by rw[append_nil];exact hO
  refine eT rfl (aY hO _ h2 (v:=ai dz 0) rfl (ag b7 (aY hO _ aG (v:=int a) rfl (aBf gF hO (ag ix ?_)))));cases aB:l.p1 a with
  | false=>exact eT rfl (iX aBi (by simp_all[dE.follow]))
  | true=>
   refine dP rfl (aY hO _ h2 (v:=ai dz 0) rfl (ahZ aD hO ?_));intro H hO;unfold dE.try at hO⊢;by_cases aJ:l.left=0;rw[if_pos aJ]at hO⊢;refine dP rfl ?_;have he:l.follow (.hF a)={l with bj:=191}:=by simp_all[dE.follow]
   rw[he]at ah;exact ah H kv [] gF.app (by rw[append_nil];exact BJ (BJ hO));rw[if_neg aJ]at hO⊢;refine eT rfl (aY hO _ h2 (v:=ai dz 0) rfl (ag b7 (aY hO _ aG (v:=int a) rfl (aV (uS hO rfl (show 6<8 by omega) (bE:=gV aR r1 r2 {l with left:=l.left-1,ee:=a} kv) rfl ?_)))));intro ab ju;have he:l.follow (.hF a)={l with left:=l.left-1,ee:=a}:=by simp_all[dE.follow]
   rw[he]at ah;exact ah ab kv [] gF.app (by rw[append_nil];exact BJ (BJ ju))
 | mN b5 aK=>
  obtain⟨aZ,aU,js,ok⟩:=aU;injection aU with aU _
  subst aU;refine ag (aBc _) (ag (show _=some (agg [int 0])from rfl) (ag (show _=some (Value.bool false)from rfl) ?_));rw[NB];refine dH hO ?_;intro c1 H hO;refine fT hO (_+0) (az rfl) rfl rfl rfl ?_;intro H hO
  replace hO:=I1 hO.cD
  replace hO:aj H ((S++((F++[(bp,⟨[ai dz 0],true⟩)])++[(c1,⟨[int 0],true⟩)]))++[(dz,⟨gV aR r1 r2 l kv,true⟩)]):=hO
  refine dP rfl (ag (aho _) (ag (show _=some (Value.bool true)from rfl) (eT rfl (ag (ahr _) (dH hO ?_)))));intro gQ H hO;refine fT (cY:=int b5::bN aK aZ) hO (_+0) (az rfl) (by rfl) (by rw[length_cons,eS ok.dh]) (by rw[all_cons,nt js.fh];rfl) ?_;intro H hO
  replace hO:=ah0 hO.cD
  replace hO:aj H (((S++[(gQ,⟨int b5::bN aK aZ,true⟩)])++((F++[(bp,⟨[ai dz 0],true⟩)])++[(c1,⟨[int 0],true⟩)]))++[(dz,⟨gV aR r1 r2 l kv,true⟩)]):=hO
  have bq:∀ {xu b9:List (Nat×ax)},(((S++[(gQ,(⟨int b5::bN aK aZ,true⟩:ax))])++xu)++b9)[S.length+0]?=some (gQ,⟨int b5::bN aK aZ,true⟩):=aL (aL (az rfl));refine e3 (fun aA ab=>aj ab (((S++[(gQ,⟨int b5::bN aK aZ,true⟩)])++((F++[(bp,⟨[ai dz 0],true⟩)])++[(c1,⟨[int 0],true⟩)]))++[(dz,⟨gV aR r1 r2 l kv,true⟩)])/\aA=[ai bp 0,ai gQ 0,.bool (decide (l.du.isSome=true\/¬eG aK\/b5<0\/b5>2304))]) ?_ ?_;refine aY hO _ h2 (v:=ai dz 0) rfl (aV (zP hO (v:=kv) rfl ?_));cases ao:l.du with
  | some y=>obtain⟨h,m⟩:=y;rw[ao]at gF;obtain⟨g,j,mQ,rfl,_⟩:=gF;exact ag (aBa _ _) (eT rfl (ag j9 (ag j9 (ag j9 (⟨hO,by simp⟩)))))
  | none=>
   rw[ao]at gF;rw[show kv=.pointer none from gF];refine ag (aA9 _) (dP rfl (ag b7 (iH (aq:=bN aK aZ) hO _ bq (by show((int b5::bN aK aZ).drop 1).take 37=_;rw[drop_one,tail_cons];exact take_of_length_le (by rw[eS ok.dh];omega)) (eS ok.dh) (by omega) (F4 ok (js.app.app.app) hO ?_))));intro H hO;refine ag ix ?_;by_cases U:eG aK;rw[decide_eq_true U];refine ag km (dP rfl (ag b7 (aY hO _ bq (v:=int b5) rfl (ag fr (ag km (bF (fun h=>?_) (fun h=>?_)))))));refine ag (gA h) ?_;rw[show kv=.pointer none from gF]at*
   simp_all
   refine ag b7 (aY hO _ bq (v:=int b5) rfl (ag kS (ag (gP h) ?_)));rw[show kv=.pointer none from gF]at*
   grind
   rw[decide_eq_false U];refine ag km (eT rfl (ag j9 (ag j9 ?_)));rw[show kv=.pointer none from gF]at*
   simp_all
  rintro aA H ⟨hO,rfl⟩
  try simp only[cj,ck]
  refine bF (fun h=>?_) (fun h=>?_);exact iX hO (by simp_all[dE.follow]);have he:l.follow (.mN b5 aK)={l with du:=some (b5,aK),ee:=0}:=by simp_all[dE.follow]
  rw[he]at ah;refine aY hO _ h2 (v:=ai dz 0) rfl (aY hO _ h2 (v:=ai dz 0) rfl ?_);have fo:bp≠dz:=NA hO h2 (az (k:=0) rfl) (by grind);have fN:bp≠gQ:=NA hO h2 bq (by grind);refine aV (uS hO rfl (show 5<8 by omega) (bE:=gV aR r1 r2 l (ai gQ 0)) rfl ?_);intro H hO;refine⟨aA8 (by simp_all[cm,En]),?_⟩;refine aV (uS hO rfl (show 6<8 by omega) (bE:=gV aR r1 r2 {l with du:=some (b5,aK),ee:=0} (ai gQ 0)) rfl ?_);intro ab ju;exact ah ab (ai gQ 0) [(gQ,⟨int b5::bN aK aZ,true⟩)] ⟨gQ,_,aZ,rfl,az (k:=0) rfl,js.app,ok⟩ (BJ (BJ ju))
 | body a bs=>
  obtain⟨ej,aU,kn,vl⟩:=aU;injection aU with aU _
  subst aU;refine ag (aBd _) (ag (show _=some (agg [int 0])from rfl) (ag (show _=some (Value.bool false)from rfl) ?_));rw[NB];refine dH hO ?_;intro c1 H hO;refine fT hO (_+0) (az rfl) rfl rfl rfl ?_;intro H hO
  replace hO:=I1 hO.cD
  replace hO:aj H (((S++[])++((F++[(bp,⟨[ai dz 0],true⟩)])++[(c1,⟨[int 0],true⟩)]))++[(dz,⟨gV aR r1 r2 l kv,true⟩)]):=by rw[append_nil];exact hO
  exact dP rfl (ag (ahp _) (ag (show _=some (Value.bool false)from rfl) (dP rfl (iX hO rfl))))
 | dy=>
  have aU:[v]=[.iface 320 (agg [])]:=aU;injection aU with aU _
  subst aU;refine ag (aBe _) (ag (show _=some (agg [int 0])from rfl) (ag (show _=some (Value.bool false)from rfl) ?_));rw[NB];refine dH hO ?_;intro c1 H hO;refine fT hO (_+0) (az rfl) rfl rfl rfl ?_;intro H hO
  replace hO:=I1 hO.cD
  replace hO:aj H (((S++[])++((F++[(bp,⟨[ai dz 0],true⟩)])++[(c1,⟨[int 0],true⟩)]))++[(dz,⟨gV aR r1 r2 l kv,true⟩)]):=by rw[append_nil];exact hO
  exact dP rfl (ag (ahq _) (ag (show _=some (Value.bool false)from rfl) (dP rfl (iX hO rfl))))
end J
namespace J
open Go Go.Ab
variable[cu:b0]
variable{H:au}{ae b9 S F X:List (Nat×ax)}{aa:VH}{v w fv:Value}{aq bE:List Value}{p q o k n j bz ca dk:Nat}{e a hr:Int}{xs:List Int}{bb gs:List lQ}{f:lQ}
abbrev l5(f:lQ):List Value:=[int f.jS,int f.vq,bT .u8 f.v]
def ir(bb:List lQ):List Value:=bb.flatMap l5
theorem Up(bb:List lQ):(ir bb).length=bb.length*3:=by
 induction bb with
 | nil=>rfl
 | cons f r bg=>show(l5 f++ir r).length=(r.length+1)*3;grind
theorem aBj(bb gs:List lQ):ir (bb++gs)=ir bb++ir gs:=by simp_all[ir]
def h4(ae:List (Nat×ax))(v:Value)(bb:List lQ):Prop:=
 (v=bu/\bb=[])\/∃p o c,v=aC p o bb.length c/\(c=6\/c=7)/\(bb=[]\/∃(j:Nat) (b:ax),ae[j]?=some (p,b)/\(b.cells.drop o).take (bb.length*3)=ir bb)
theorem h4.nil:h4 ae bu []:=.inl ⟨rfl,rfl⟩
theorem h4.lk(h:h4 ae v bb):∃a n c,v=.slice a n c:=by rcases h with⟨rfl,_⟩|⟨p,o,c,rfl,_⟩<;>exact⟨_,_,_,rfl⟩
theorem h4.fh(h:h4 ae v bb):eL v=true:=by obtain⟨a,n,c,rfl⟩:=h.lk;rfl
theorem h4.tG(h:h4 ae v bb):fY v=true:=by rcases h with⟨rfl,_⟩|⟨p,o,c,rfl,_⟩<;>rfl
theorem h4.bO(h:h4 ae v bb):bO v H=some (int bb.length,H):=by rcases h with⟨rfl,rfl⟩|⟨p,o,c,rfl,_⟩<;>rfl
theorem h4.nC(h:h4 ae v bb):nC v=some bb.length:=by rcases h with⟨rfl,rfl⟩|⟨p,o,c,rfl,_⟩<;>rfl
theorem h4.app(h:h4 ae v bb):h4 (ae++b9) v bb:=by
 rcases h with h|⟨p,o,c,h1,h2,h3|⟨j,b,h3,aG⟩⟩
 exact .inl h;exact .inr ⟨p,o,c,h1,h2,.inl h3⟩;exact .inr ⟨p,o,c,h1,h2,.inr ⟨j,b,aL h3,aG⟩⟩
theorem aBk{b:ax}(h:(b.cells.drop o).take (bb.length*3)=ir bb):bb.length*3<=b.cells.length-o:=by
 have:=congrArg List.length h
 grind[Up]
theorem h4.pL(hO:aj H ae)(h:h4 ae v bb):tX H 3 bb.length v=some (ir bb):=by
 rcases h with⟨rfl,rfl⟩|⟨p,o,c,rfl,_,rfl|⟨j,b,h3,aG⟩⟩
 rfl;rfl;by_cases ao:bb=[];subst ao;rfl;have aJ:0<bb.length:=length_pos_iff.2 ao;have aD:=aBk aG;rw[HH (hO.at j h3 (.inr (fun e=>by grind))) (by omega),aG]
theorem aBl{p o n c:Nat}(aB:c=6\/c=7):hI 3 (aC p o (n+1) c) (some (int 1)) none none=some (aC p (o+3) n c):=by
 have e:Nat.beq (n+1) (n+1)=true:=beq_refl _;rcases aB with rfl|rfl
 rfl;show some (Value.slice (some ⟨p,o+1*3,none⟩) (n+1-1) (cond (false||Nat.beq (n+1) (n+1)) 7 6))=_
 grind
theorem aBm{l jV:List Value}{n:Nat}(h:l.take ((n+1)*3)=l5 f++jV):l.take 3=l5 f/\(l.drop 3).take (n*3)=jV:=by
 have h1:=congrArg (List.take 3) h;have h2:=congrArg (List.drop 3) h
 grind[drop_take]
theorem h4.cons(h:h4 ae v (f::bb)):∃p o c,∃(j:Nat) (b:ax),v=aC p o (bb.length+1) c/\ae[j]?=some (p,b)/\(b.cells.drop o).take 3=l5 f/\hI 3 v (some (int 1)) none none=some (aC p (o+3) bb.length c)/\h4 ae (aC p (o+3) bb.length c) bb:=by
 rcases h with⟨_,h⟩|⟨p,o,c,rfl,aB,h|⟨j,b,h3,aG⟩⟩
 cases h;cases h;have a6:=aBm (n:=bb.length) (show(b.cells.drop o).take ((bb.length+1)*3)=l5 f++ir bb from aG);refine⟨p,o,c,j,b,rfl,h3,a6.1,aBl aB,.inr ⟨p,o+3,c,rfl,aB,.inr ⟨j,b,h3,?_⟩⟩⟩
 simp_all
theorem ah1(hO:aj H (S++F))(hv:(v=bu/\bb=[])\/((∃p o,v=aC p o bb.length 7)/\h4 S v bb))(ao:h4 S w gs)(aD:bb.length+gs.length<=1000000)
  (ah:∀ab aQ X,aj ab ((S++F)++X)->h4 (S++X) aQ (bb++gs)->aa aQ ab):af (gw 3 24 v w H) aa:=by
 unfold gw;simp only[ao.nC,ao.app.pL hO];by_cases aJ:gs=[];subst aJ;have U:h4 S v bb:=by
  rcases hv with⟨rfl,rfl⟩|⟨_,h⟩
  exact .nil;exact h
 have tu:=ah H v [] (by rw[append_nil];exact hO) (by rw[append_nil bb];exact U.app);rcases hv with⟨rfl,rfl⟩|⟨⟨p,o,rfl⟩,_⟩
 exact bW rfl tu;exact bW rfl tu;have hg:0<gs.length:=length_pos_iff.2 aJ;have ak:Nat.beq gs.length 0=false:=by grind[eq_of_beq_eq_true]
 rcases hv with⟨rfl,rfl⟩|⟨⟨p,o,rfl⟩,h⟩
 unfold rA;simp only[ak,Bool.false_eq_true,if_false];rw[if_pos (x4 (by omega) (by omega))];refine bW (show mB (ir gs) gs.length (2*3) H=some (aC H.next 0 gs.length 6,H.push (ir gs))from rfl) (ah _ _ _ (hO.push (ir gs)) (.inr ⟨H.next,0,6,rfl,.inl rfl,.inr ⟨_,_,az (k:=0) rfl,?_⟩⟩))
 simp_all[take_of_length_le,Up]
 unfold rA;simp only[ak,Bool.false_eq_true,if_false];rw[if_pos (x4 (by omega) (by omega))];rw[if_pos (show Nat.beq 7 (2*3+1)=true from rfl)];unfold z1;have he:=h.app.pL hO;have y7:(if Nat.beq bb.length 0 then some []else s0 H p o (bb.length*3))=some (ir bb):=he;rw[y7];simp only;rw[jm];refine bW (show mB (ir bb++ir gs) (bb.length+gs.length) (2*3) H=some (aC H.next 0 (bb.length+gs.length) 6,H.push (ir bb++ir gs))from rfl) (ah _ _ _ (hO.push _) (.inr ⟨H.next,0,6,by simp_all,.inl rfl,.inr ⟨_,_,az (k:=0) rfl,?_⟩⟩))
 grind[aBj,Up]
theorem ah2:P.underlying 24=some (.slice 61):=by rfl
theorem aBn(H:au):(eV P 24 0).f [] H=some (aC H.next 0 0 7,H.push []):=by rfl
theorem aBo(hO:aj H (S++F))(hv:h4 S v bb)(aD:bb.length<=100000)(ah:∀ab aQ X,aj ab ((S++F)++X)->h4 (S++X) aQ bb->aa aQ ab):ay P 121 [v] H aa:=by
 apply ar9;unfold abW;have jT:=hv;rcases hv with⟨rfl,rfl⟩|⟨p,o,c,rfl,_⟩
 exact ag (Lt ah2) (eT rfl (ah H bu [] (by rw[append_nil];exact hO) .nil));refine ag (Lt ah2) (dP rfl (ik hO (aBn _) ?_));intro q H hO;rw[append_assoc]at hO;refine ah1 (bb:=[]) hO (.inr ⟨⟨q,0,rfl⟩,.inr ⟨q,0,7,rfl,.inr rfl,.inl rfl⟩⟩) jT (by grind) ?_;intro ab aQ X ju U;refine ah ab aQ X (ju.sub ?_) U;refine List.Sublist.append_right ?_ X;rw[<- append_assoc];exact sublist_append_left _ _
theorem aBp(hO:aj H ae)(hv:h4 ae v bb)(ah:∀aQ,((aQ=bu/\bb=[])\/((∃p o,aQ=aC p o bb.length 7)/\h4 ae aQ bb))->aa aQ H):ay P 76 [v] H aa:=by
 apply arJ;unfold abu;refine bW hv.bO (bW hv.bO ?_);rcases hv with⟨rfl,rfl⟩|⟨p,o,c,rfl,aB,h⟩
 exact ag (show _=some bu from rfl) (ah bu (.inl ⟨rfl,rfl⟩));have hh:oG bb.length (some (int (bb.length:Int)))=some bb.length:=by
  show(match kx 0 (bb.length:Int)with|true=>(match Nat.ble (bb.length:Int).toNat bb.length with|true=>some (bb.length:Int).toNat|false=>none)|false=>none)=_
  simp_all[lf,ble_eq_true_of_le]
 have hm:sl bb.length (some (int (bb.length:Int))) (some (int (bb.length:Int)))=some true:=by
  show(match kx 0 (bb.length:Int)with|true=>(match Nat.beq (bb.length:Int).toNat bb.length with|true=>some true|false=>none)|false=>none)=_
  simp_all[lf]
 have he:hI 3 (aC p o bb.length c) none (some (int (bb.length:Int))) (some (int (bb.length:Int)))=some (aC p o bb.length 7):=by unfold hI;simp only[hh,hm,qD];rcases aB with rfl|rfl<;>simp[rC]
 exact ag he (ah _ (.inr ⟨⟨p,o,rfl⟩,.inr ⟨p,o,7,rfl,.inr rfl,h⟩⟩))
theorem ah3(hO:aj H ae)(hv:RdB ae v xs)(aD:xs.length<=1000000)(ah:A7 ae aa (ow xs a hr)):ay P 227 [v,int a,int hr] H aa:=by
 apply atm;unfold adj;have iX:(a<0\/(xs.length:Int)<=a\/hr<1)->aa bu H:=by intro h;unfold ow at ah;rw[if_pos h]at ah;exact ah.none hO
 refine e3 (fun aA ab=>aA=[v,int a,int hr]/\ab=H/\0<=a/\a<xs.length/\1<=hr) ?_ ?_;refine ag fr (bF (fun h=>?_) (fun h=>?_));exact ag (gA h) (ag j9 (eT rfl (iX (.inl h))));refine bW hv.bO (ag um (ag (gP h) (bF (fun h2=>?_) (fun h2=>?_))));exact ag (gA h2) (eT rfl (iX (.inr (.inl h2))));refine ag fr (ag (gP h2) (bF (fun h3=>?_) (fun h3=>?_)));exact iX (.inr (.inr h3));exact⟨rfl,rfl,by omega,by omega,by omega⟩;rintro aA ab ⟨rfl,rfl,h1,h2,h3⟩
 try simp only[cj,ck]
 unfold ow at ah;rw[if_neg (by omega)]at ah;obtain⟨n,rfl⟩:=Int.eq_ofNat_of_zero_le h1;obtain⟨m,rfl⟩:=Int.eq_ofNat_of_zero_le (show 0<=hr by omega);simp only[Int.ofNat_eq_natCast,Int.toNat_natCast]at*;obtain⟨ej,a7,i1⟩:=Md hv (n:=n) (by omega);refine ag a7 ?_;have r1:=i1 ae hv;refine bW r1.bO (bW tl ?_);rw[show min (m:Int) ((xs.drop n).length:Int)=((min m (xs.drop n).length:Nat):Int) by omega];obtain⟨ec,bt,k2⟩:=A8 r1 (n:=min m (xs.drop n).length) (by omega);refine ag bt (L9 hO (k2 ae r1) (by grind) ?_);rw[show(xs.drop n).take (min m (xs.drop n).length)=(xs.drop n).take m by simp_all];exact ah
def fD(ca:Nat)(fv:Value)(dk:Nat):List Value:=[w5 ca,fv,int dk]
theorem ah4:df P 61=l5 ⟨0,0,0⟩:=by rfl
theorem aBq:(dq P 61).f []=some (agg (l5 ⟨0,0,0⟩)):=by rfl
theorem aBr(hf:h4 S fv bb)(hO:aj H ((S++F)++[(bz,⟨fD ca fv dk,true⟩)]))
  (ah:∀ab hN,h4 S hN (gU.next ⟨[],bb,0⟩).2->aj ab ((S++F)++[(bz,⟨fD ca hN dk,true⟩)])->aa (agg (l5 (gU.next ⟨[],bb,0⟩).1)) ab):ay P 226 [ai bz 0] H aa:=by
 generalize eP:S++F=ae at*;apply atl;unfold adi;rw[ah4];refine dH hO ?_;intro dn H hO;have aU:∀ {b9} {fv:Value},((ae++[(bz,(⟨fD ca fv dk,true⟩:ax))])++b9)[ae.length+0]?=some (bz,⟨fD ca fv dk,true⟩):=aL (az rfl);refine aV (aY hO _ aU (v:=fv) rfl (bW hf.bO (ag e2 ?_)));cases bb with
 | nil=>
  refine eT (by simp) (ag aBq (fT hO (_+0) (az rfl) rfl rfl rfl ?_));intro H hO
  replace hO:=hO.cD
  exact gh hO (_+0) (az rfl) rfl (by omega) (ah H fv hf hO.left)
 | cons f bb=>
  refine dP (by rfl) ?_;obtain⟨p,o,c,j,b,rfl,bm,h3,aG,a6⟩:=hf.cons
  replace bm:ae[j]?=some (p,b):=by grind
  refine aV (aY hO _ aU (v:=aC p o (bb.length+1) c) rfl (ag (jD (by omega) (by omega)) (iH (aq:=l5 f) hO j (aL (aL bm)) (by simp_all) rfl (by omega) (dH hO ?_))));intro t3 H hO;refine fT hO (_+0) (az rfl) rfl rfl rfl ?_;intro H hO
  replace hO:=hO.cD
  refine aV (aY hO _ (aL aU) (v:=aC p o (bb.length+1) c) rfl (ag aG (aV (fR hO (ae.length+0) (aL aU) a6.fh (show 1<3 by omega) (bE:=fD ca (aC p (o+3) bb.length c) dk) rfl ?_))));intro H hO;rw[append_assoc (ae++_),append_assoc ae,Go.Ab.cD]at hO
  replace hO:aj H (ae++((bz,⟨fD ca (aC p (o+3) bb.length c) dk,true⟩)::[(dn,⟨l5 ⟨0,0,0⟩,true⟩),(t3,⟨l5 f,true⟩)])):=hO
  refine gh hO (ae.length+2) (az rfl) rfl (by omega) (fT hO (ae.length+1) (az rfl) rfl rfl rfl ?_);intro H hO;rw[Go.Ab.cD]at hO;refine gh hO (ae.length+1) (az rfl) rfl (by omega) (ah H _ a6 (hO.sub ?_));exact List.Sublist.append_left (List.Sublist.cons_cons _ (nil_sublist _)) ae
end J
namespace J
open Go Go.Ab
variable[cu:b0]
variable{H:au}{ae jz b9 S F X N:List (Nat×ax)}{aa:VH}{v fv kv:Value}{T aq bE:List Value}{p o n i bz ca dk:Nat}{a hr:Int}{xs:List Int}{bb:List lQ}{f:lQ}{ff k:List UInt8}{off:qw}{aR:gU}
def uT(ae:List (Nat×ax)):List Value->qw->Prop
 | [],[]=>True
 | kv::v::T,o::r=>kv=bS o.1/\RdB ae v o.2/\cE o.2/\o.2.length<=10000/\uT ae T r
 | _,_=>False
theorem uT.app:∀ {T:List Value} {off:qw},uT ae T off->uT (ae++b9) T off
 | [],[],_=>trivial
 | kv::v::T,o::r,h=>⟨h.1,h.2.1.app,h.2.2.1,h.2.2.2.1,h.2.2.2.2.app⟩
 | [],_::_,h=>h.elim
 | [_],[],h=>h.elim
 | [_],_::_,h=>h.elim
 | _::_::_,[],h=>h.elim
theorem uT.more:∀ {T:List Value} {off:qw},uT ae T off->RdB ae v xs->cE xs->xs.length<=10000->uT ae (T++[bS k,v]) (off++[(k,xs)])
 | [],[],_,h1,h2,h3=>⟨rfl,h1,h2,h3,trivial⟩
 | kv::v::T,o::r,h,h1,h2,h3=>⟨h.1,h.2.1,h.2.2.1,h.2.2.2.1,h.2.2.2.2.more h1 h2 h3⟩
 | [],_::_,h,_,_,_=>h.elim
 | [_],[],h,_,_,_=>h.elim
 | [_],_::_,h,_,_,_=>h.elim
 | _::_::_,[],h,_,_,_=>h.elim
theorem aBs(a b:List UInt8):Ej true (bS a) (bS b)=some (decide (a=b)):=by
 have h:Ej true (bS a) (bS b)=some (a.toArray==b.toArray):=rfl;rw[h];congr 1
 grind
theorem uT.Uq:∀ {T:List Value} {off:qw},uT ae T off->(k:List UInt8)->(v8 off k=none/\xE true (bS k) T=some none)\/∃bs v,v8 off k=some bs/\xE true (bS k) T=some (some v)/\RdB ae v bs/\cE bs/\bs.length<=10000
 | [],[],_,_=>.inl ⟨rfl,rfl⟩
 | kv::v::T,o::r,⟨h1,h2,h3,aG,a6⟩,k=>by
  subst h1;unfold v8 xE;rw[aBs];by_cases ah:k=o.1
  grind
  rw[decide_eq_false ah,if_neg (fun h=>ah h.symm)];exact a6.Uq k
 | [],_::_,h,_=>h.elim
 | [_],[],h,_=>h.elim
 | [_],_::_,h,_=>h.elim
 | _::_::_,[],h,_=>h.elim
structure p3 (S:List (Nat×ax)) (ca:Nat) (fv:Value) (n:gU):Prop where
 of:∃T,eZ cu.l ca=some (ki T)/\uT S T n.off
 bb:h4 S fv n.bb
 zQ:∀f∈n.bb,f.v<256
theorem p3.app(h:p3 S ca fv aR):p3 (S++X) ca fv aR:=by obtain⟨⟨T,h1,h2⟩,h3,aG⟩:=h;exact⟨⟨T,h1,h2.app⟩,h3.app,aG⟩
theorem I2:Go.Ab.B2 P 174=some (true,22):=by rfl
theorem NC:iL P 22=some bu:=by rfl
theorem Gi(h:aj H ((((S++F)++jz)++b9)++N)):aj H (((S++N)++F)++jz):=
 ah0 (h.sub (b9:=((S++F)++jz)++N) (List.Sublist.append_right (sublist_append_left _ _) N))
theorem cE.cut(h:cE xs):cE (ow xs a hr):=by unfold ow;split;simp[cE];exact fun x ao=>h x (mem_of_mem_drop (mem_of_mem_take ao))
theorem aBt(h:∀g∈bb,g.v<256):(gU.next ⟨[],bb,0⟩).1.v<256/\∀g∈(gU.next ⟨[],bb,0⟩).2,g.v<256:=by grind[gU.next]
theorem aBu(n:gU):n.next=gU.next ⟨[],n.bb,0⟩:=rfl
theorem ah5:(ow xs a hr).length<=xs.length:=by
 unfold ow
 grind
theorem gf.set{i:Nat}{y:Int}(h:gf v xs aq)(an:i<xs.length):gf v (xs.set i y) (aq.set i (.int .u8 y)):=by
 rcases h with⟨rfl,rfl,rfl⟩|⟨p,h1,h2,h3,aG⟩
 simp at an;refine .inr ⟨p,by simp_all,?_,by simp_all,?_⟩
 simp_all[take_set]
 rw[all_eq_true];intro x ao;rcases mem_or_eq_of_mem_set ao with h|rfl
 simp_all
 rfl
theorem gf.ai(h:gf v xs aq)(ao:xs≠[]):∃p c,v=aC p 0 xs.length c/\(c=2\/c=3)/\bQ v aq=[(p,⟨aq,true⟩)]:=by
 rcases h with⟨_,rfl,_⟩|⟨p,rfl|⟨rfl,_⟩,_⟩
 simp_all
 exact⟨p,2,rfl,.inl rfl,rfl⟩;exact⟨p,3,rfl,.inr rfl,rfl⟩
theorem gf.at(h:gf v xs aq){i:Nat}(an:i<xs.length):aq[i]?=some (.int .u8 xs[i]):=by
 rcases h with⟨_,rfl,_⟩|⟨p,_,h2,_⟩
 simp at an;have:=congrArg (·[i]?) h2
 grind
theorem ah6(h:h4 S fv bb):(fD ca fv dk).all fY=true:=by show(fY (w5 ca)&&(fY fv&&(fY (int dk)&&true)))=true;rw[h.tG];rfl
theorem aBv(aX:p3 S ca fv aR)(aD:ff.length<=1000000)(aB:aR.dk<=1000000)(hO:aj H ((S++F)++[(bz,⟨fD ca fv aR.dk,true⟩)]))
  (ah:∀ab aQ hN X,RdB (S++X) aQ (aR.mx ff a hr).1.1->cE (aR.mx ff a hr).1.1->(aR.mx ff a hr).1.1.length<=10000->((aR.mx ff a hr).1.1≠[]->pr (S++X) aQ)->p3 (S++X) ca hN (aR.mx ff a hr).2->
   aj ab (((S++X)++F)++[(bz,⟨fD ca hN (aR.mx ff a hr).2.dk,true⟩)])->aa (.tuple [aQ,int (aR.mx ff a hr).1.2].toArray) ab):ay P 187 [ai bz 0,bS ff,int a,int hr] H aa:=by
 apply asU;unfold acL;obtain⟨⟨T,bk,Ur⟩,qy,uy⟩:=aX;refine aV (aY hO ((S++F).length+0) (az rfl) (v:=w5 ca) rfl (Na aD (⟨ho hO ((S++F).length+0) (az rfl) hO ((S++F).length+0) (az rfl) (ah6 qy),?_⟩)));unfold gU.mx at ah;rcases Ur.Uq (kc ff)with⟨a7,bt⟩|⟨all,av,a7,bt,ah7,Us,lo⟩
 rw[a7]at ah;exact Lw hO bk I2 NC bt (ag kT (ag kU (ag ix (eT rfl (ah H bu fv [] .nil (by simp[cE]) (by simp) (fun h=>absurd rfl h) (by rw[append_nil];exact⟨⟨T,bk,Ur⟩,qy,uy⟩) (by rw[append_nil];exact hO))))));rw[a7]at ah;simp only[aBu aR]at ah;refine Lw hO bk I2 NC bt (ag kT (ag kU (ag ix (dP rfl ?_))));show ad _ _;refine aV (aY hO ((S++F).length+0) (az rfl) (v:=int aR.dk) rfl (ag (v:=int ((aR.dk+1:Nat):Int)) (by grind[jg]) (aV (uS hO rfl (show 2<3 by omega) (bE:=fD ca fv (aR.dk+1)) rfl ?_))));intro H hO;refine aBr qy hO ?_;obtain⟨kn,jF⟩:=aBt uy;generalize hf:(gU.next ⟨[],aR.bb,0⟩).1=f at ah kn;generalize U:(gU.next ⟨[],aR.bb,0⟩).2=r at ah jF;intro H hN oO hO;have BK:∀X,p3 (S++X) ca hN ⟨aR.off,r,aR.dk+1⟩:=fun X=>p3.app ⟨⟨T,bk,Ur⟩,oO,jF⟩
 rw[ah4];refine dH hO ?_;intro ND H hO;refine fT hO (_+0) (az rfl) rfl rfl rfl ?_;intro H hO
 replace hO:=hO.cD
 replace hO:aj H (((S++F)++[(bz,⟨fD ca hN (aR.dk+1),true⟩)])++[(ND,⟨l5 f,true⟩)]):=hO
 have nW:∀ {b9},((((S++F)++[(bz,(⟨fD ca hN (aR.dk+1),true⟩:ax))])++[(ND,(⟨l5 f,true⟩:ax))])++b9)[((S++F)++[(bz,(⟨fD ca hN (aR.dk+1),true⟩:ax))]).length+0]?=some (ND,⟨l5 f,true⟩):=aL (az rfl);refine ah3 hO (ah7.app.app.app) (by omega) ?_;have Bm:cE (ow all a hr):=Us.cut;have sr:(ow all a hr).length<=10000:=Nat.le_trans ah5 lo;have tx:=hO;intro H ej oV hO wa;refine ag b7 (aY hO _ nW (v:=int f.jS) rfl (ag e2 ?_));unfold qx at ah;refine bF (fun h=>?_) (fun h=>?_);rw[if_pos h]at ah;exact ah H bu hN [] .nil (by simp[cE]) (by simp) (fun h=>absurd rfl h) (BK []) (by rw[append_nil];exact hO.left.left);rw[if_neg h]at ah;refine ag e2 (bF (fun h=>?_) (fun h=>?_));rw[if_pos h]at ah;refine bW wa.bO (ag kS ?_);unfold ahV at ah;by_cases ao:ow all a hr=[];rw[if_pos ao]at ah;exact sF (by grind) (ah H ej hN _ (wa.lY.app') Bm sr (fun h=>absurd ao h) (BK _) (Gi hO));rw[if_neg ao]at ah;have aJ:0<(ow all a hr).length:=length_pos_iff.2 ao;refine oa (by omega) ?_;generalize aGl:ow all a hr=cx at*;obtain⟨p,c,rfl,yX,aBw⟩:=gf.ai wa ao;refine ag b7 (aY hO _ nW (v:=int f.vq) rfl (bW x3 (bW wa.bO ?_)));obtain⟨cZ,EO⟩:=Int.eq_ofNat_of_zero_le (show 0<=max f.vq 0 by omega);rw[EO]at ah⊢;simp only[Int.ofNat_eq_natCast,Int.toNat_natCast]at ah⊢;have dw:cZ%cx.length<cx.length:=mod_lt _ aJ;refine ag (v:=int ((cZ%cx.length:Nat):Int)) (uN aJ) (ag (jD (by omega) (by omega)) ?_)
 rw[aBw]at hO;have oM:=gf.at wa dw;have vl:=Bm _ (getElem_mem dw);have ah8:cx[cZ%cx.length]=((cx[cZ%cx.length].toNat:Nat):Int):=by omega
 refine aY hO (_+0) (az rfl) (v:=bT .u8 (cx[cZ%cx.length].toNat)) (by show oV[0+((cZ%cx.length:Nat):Int).toNat*1]?=some (Value.int .u8 ((cx[cZ%cx.length].toNat:Nat):Int));rw[<- ah8,<- oM,Int.toNat_natCast,Nat.zero_add,Nat.mul_one]) ?_;refine ag b7 (aY hO _ nW (v:=bT .u8 f.v) rfl (ag (oc rfl (show _<256 by omega) (show _<256 from kn)) (ag (jD (by omega) (by omega)) ?_)));rw[getD_eq_getElem?_getD,List.getElem?_eq_getElem dw,Option.getD_some]at ah;have al:=gf.set wa (y:=((cx[cZ%cx.length].toNat ^^^ f.v:Nat):Int)) dw;have YO:cx[cZ%cx.length].toNat ^^^ f.v<256:=xor_lt_two_pow (n:=8) (by omega) kn;have aGm:cZ%cx.length<oV.length:=(List.getElem?_eq_some_iff.1 oM).1;refine fR hO (_+0) (az rfl) rfl (show 0+((cZ%cx.length:Nat):Int).toNat*1<oV.length by omega) (bE:=oV.set (cZ%cx.length) (.int .u8 ((cx[cZ%cx.length].toNat ^^^ f.v:Nat):Int))) (by rw[Int.toNat_natCast,Nat.zero_add,Nat.mul_one]) ?_;intro ab ju;rw[Go.Ab.cD]at ju;have dF:aj ab ((((S++F)++[(bz,⟨fD ca hN (aR.dk+1),true⟩)])++[(ND,⟨l5 f,true⟩)])++bQ (aC p 0 cx.length c) (oV.set (cZ%cx.length) (.int .u8 ((cx[cZ%cx.length].toNat ^^^ f.v:Nat):Int)))):=ju;exact ah ab _ hN _ (al.lY.app') (by
  intro x ao;rcases mem_or_eq_of_mem_set ao with h|rfl
  grind
  omega) (by grind) (fun _=>(gf.xj al).app') (BK _) (Gi dF)
 rw[if_neg h]at ah;refine ag e2 (bF (fun h=>?_) (fun h=>?_));rw[if_pos h]at ah;refine ag b7 (aY hO _ nW (v:=int f.vq) rfl (bW wa.bO (bW tl (bW x3 ?_))));obtain⟨t,ht⟩:=Int.eq_ofNat_of_zero_le (show 0<=max 0 (min f.vq ((ow all a hr).length:Int)) by omega);rw[ht]at ah⊢;simp only[Int.ofNat_eq_natCast,Int.toNat_natCast]at ah⊢;obtain⟨ec,bt,k2⟩:=A8 wa.lY (n:=t) (by omega);exact ag bt (ah H ec hN _ ((k2 _ wa.lY).app') (fun x ao=>Bm x (mem_of_mem_take ao)) (by rw[length_take];omega) (fun _=>((gf.xj wa).slice bt).app') (BK _) (Gi hO));rw[if_neg h]at ah;refine ag e2 (bF (fun h=>?_) (fun h=>?_));rw[if_pos h]at ah;refine ag b7 (aY hO _ nW (v:=int f.vq) rfl (ah3 hO.left (ah7.app.app.app) (by omega) ?_));intro cJ ec mG dF ah9;exact ah cJ ec hN _ (ah9.lY.app') Us.cut (Nat.le_trans ah5 lo) (fun _=>(gf.xj ah9).app') (BK _) (Gi dF);rw[if_neg h]at ah;exact ah H ej hN _ (wa.lY.app') Bm sr (fun _=>(gf.xj wa).app') (BK _) (Gi hO)
end J
