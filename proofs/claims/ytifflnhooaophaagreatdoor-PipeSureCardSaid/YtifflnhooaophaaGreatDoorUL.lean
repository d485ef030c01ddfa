/- texts of the nF, e5 behind the l0 -/
import Derived.Test.YtifflnhooaophaaGreatDoorUK
set_option linter.unusedVariables false
set_option linter.unusedSimpArgs false
set_option linter.unusedSectionVars false
set_option maxHeartbeats 4000000
set_option maxRecDepth 100000
open List Nat
namespace J
open Go Go.Ab
variable[cr:bW]
variable{d:bG}{m:bn}{n k e:Nat}{w dH e0:bN}{aC:Int}{f g:Nat->List Int}
inductive He:Nat->bN->bN->Prop
 | nil (w:bN):He 0 w w
 | step {k:Nat} {w dH e0:bN}:w.step=(true,dH)->He k dH e0->He (k+1) w e0
theorem He.e5(h:w.step=(true,dH)):He 1 w dH:=.step h (.nil _)
structure qv (w:bN) (n:Nat) (aC:Int) (f g:Nat->List Int):Prop where
 tQ:w.s.uE w.cK
 di:w.s.dc=aC
 cP:w.dc=aC
 fS:w.s.fS=0
 cC:w.s.cC=1
 oC:k0 aC
 lP:nM w.m n n
 qU:w.m.d.h7=false
 LG:w.m.d.iP=-1
 o7:w.m.d.o7=100
 f:∀i,i<n->eC w.m.d (off n aC+i)=f i
 g:∀i,i<n->eC w.m.d (off n (1-aC)+i)=g i
theorem qv.part(h:qv w n aC f g):w.s.part aC=aC:=by
 unfold fM.part;rcases h.oC with e|e<;>subst e
 rw[if_neg (by omega),if_pos rfl,h.fS];rw[if_neg (by omega),if_neg (by omega),h.cC]
theorem Ev{b:Int}:pg n n b=n:=by simp_all[pg]
theorem qv.size(h:qv w n aC f g):w.size=n:=by unfold bN.size;rw[h.cP,h.part,B5 h.lP h.oC,Ev]
end J
namespace J
open Go Go.Ab
variable[cr:bW]
variable{m:bn}{n e:Nat}{w:bN}{aC:Int}{f g:Nat->List Int}
theorem ayK{ao:List Cell}{z:Nat×List Int}{j:Nat}:((wP ao z).getD j lq).fa=(ao.getD j lq).fa:=by grind[wP]
theorem afD:∀(l:List (Nat×List Int)) (ao:List Cell) (j:Nat),((j2 ao l).getD j lq).fa=(ao.getD j lq).fa
 | [],_,_=>rfl
 | z::l,ao,j=>(afD l (wP ao z) j).trans ayK
theorem Hf{α:Type}:∀(l:List Nat) {f g:Nat->List α},(∀i∈l,f i=g i)->l.flatMap f=l.flatMap g
 | [],_,_,_=>rfl
 | a::l,f,g,h=>by rw[flatMap_cons,flatMap_cons,h a mem_cons_self,Hf l fun i aq=>h i (mem_cons_of_mem _ aq)]
theorem qv.all(h:qv w n aC f g):w.m.all aC=(List.range n).flatMap f:=by
 have aw:pg n n aC=n:=Ev;unfold bn.all bn.q3;rw[B5 h.lP h.oC,aw];refine Hf _ fun i aq=>?_
 rw[Hd h.lP h.oC (by simp_all)];exact h.f i (mem_range.1 aq)
theorem Hg(h:k0 aC):k0 (1-aC):=by rcases h with e|e<;>subst e;exact .inr rfl;exact .inl rfl
theorem qv.l0(h:qv w n aC f g):w.m.all (1-aC)=(List.range n).flatMap g:=by
 have aw:pg n n (1-aC)=n:=Ev;unfold bn.all bn.q3;rw[B5 h.lP (Hg h.oC),aw];refine Hf _ fun i aq=>?_
 rw[Hd h.lP (Hg h.oC) (by simp_all)];exact h.g i (mem_range.1 aq)
end J
namespace J
open Go Go.Ab
variable[cr:bW]
variable{m:bn}{x:List Int}{ak:List (List Int)}{w dH:bN}{bI:j5}{q:List j5}{gC:dm}{h8:Int}
theorem Sx{N:Nat}{F:bn->bn×Int}(h:w.m.hN N)(hf:∀m,m.hN N->(F m).1.hN (N+1)):(w.put (w.s.as w.m w.cK F)).m.hN (N+1):=axL h hf
theorem ayL{N:Nat}(h:w.m.hN N):w.step.2.m.hN (N+1):=by
 have h1:w.m.hN (N+1):=h.mono (by omega);unfold bN.step;split;exact h1;split;show w.pe.m.hN _;unfold bN.pe;split;exact Sx h fun m hm=>bn.atn hm
 exact h1;split;show w.oA.m.hN _;have aw:w.oz.m.hN (N+1):=Sx h fun m hm=>(bn.acL hm).mono (by omega)
 unfold bN.oA;split;exact aw;split<;>exact aw;split;rename_i x ak _;show(w.fill x ak).m.hN _;have aw:(w.uG x).m.hN (N+1):=Sx h fun m hm=>bn.acK hm
 unfold bN.fill;split<;>exact aw;split;exact h1;rename_i bI q _;have:∀dH:bN,(dH.jJ bI).m=dH.m:=by
  intro dH;unfold bN.jJ
  grind[bN.yw,bN.body]
 show(({w with q:=q}:bN).jJ bI).m.hN _;rw[this];exact h1
theorem ayM(h:0<=w.aI.cU)(bI:j5):0<=(w.jJ bI).aI.cU:=by
 unfold bN.jJ;by_cases aN:w.dL=0;rw[if_pos aN];cases bI with
 | nn h8 gC=>
  show 0<=(w.yw gC).aI.cU;unfold bN.yw;by_cases U:en gC;rw[if_neg (by simp[U])];split;exact h;obtain⟨_,_,_,lA,_⟩:=U
  grind
  simp_all
 | rk a=>exact h
 | body a c=>exact h
 | ed=>exact h
 rw[if_neg aN]
 grind[bN.body]
theorem ayN(h:0<=w.aI.cU):0<=w.step.2.aI.cU:=by
 unfold bN.step;split;exact h;split;show 0<=w.pe.aI.cU;unfold bN.pe;split<;>exact h;split;show 0<=w.oA.aI.cU;unfold bN.oA;split;exact h;split<;>exact h;split;rename_i x ak _;show 0<=(w.fill x ak).aI.cU;unfold bN.fill;split<;>exact h;split;exact h
 simp_all[ayM]
end J
namespace J
open Go Go.Ab
variable[cr:bW]
variable{H:ar}{S F X N:List (Nat×ay)}{ab:VH}{c:Nat}{m:dm}{w:bN}{B dj:jB}{b:List Int}{cE:List UInt8}
theorem ayO{eb:Nat}{bx:Int}(aR:ra cE=0)(dS:1<=eb)(dD:eb<=281474976710656)(b1:1<=b.length)(b2:b.length<=65536)(eP:64<=bx)(dR:bx<=1024)(ij:bx%64=0)(aD:lY b.length bx<=64):en (pf cE eb bx b):=by
 have aN:0<=lY b.length bx:=Q9;refine⟨aR,dS,dD,?_,?_,eP,dR,ij,?_,?_⟩;show(1:Int)<=((b.length:Nat):Int);omega;show((b.length:Nat):Int)<=65536;omega;unfold pf;rw[Et];show _=lY ((b.length:Nat):Int) bx;omega
 simp_all[pf,Et]
def kK:List UInt8:=[99,111,114,101]
theorem ayP:ra kK=0:=by rfl
theorem ayQ{N:Nat}(aQ:jQ S w B)(fj:0<=w.aI.cU)(hm:w.m.hN N)(nT:N<=1000000)(hO:jL H S F w B)(ag:∀aa dj X,B.fB dj->jQ (S++X) w.step.2 dj->0<=w.step.2.aI.cU->w.step.2.m.hN (N+1)->jL aa (S++X) F w.step.2 dj->ab (.bool w.step.1) aa):az P 66 [ai B.c 0] H ab:=
 ayp aQ fj (hm.mono nT) hO fun aa dj X h1 h2 aB=>ag aa dj X h1 h2 (ayN fj) (ayL hm) aB
end J
namespace J
open Go Go.Ab
variable[cr:bW]
variable{H:ar}{ab:VH}{ae:List (Nat×ay)}
abbrev mD(fF lZ:Int)(s n:Nat):ay:=⟨[int fF,int lZ,aC s 0 n 3],true⟩
abbrev mE(l:List Int):ay:=⟨l.map int,true⟩
section
variable{d s n:Nat}{fF lZ x:Int}{l:List Int}
theorem ayR(hO:aj H ae)(i:Nat)(aq:ae[i]?=some (d,mD fF lZ s n))(ag:ab (.bool (decide (0<=x/\x<n))) H):az P 190 [ai d 0,int x] H ab:=by
 apply aqU;unfold aaI
 repeat refine bD ?_
 refine bz (fun h=>?_) (fun h=>?_)
 repeat refine bD ?_
 refine aP hO i aq rfl ?_
 repeat (first|refine bD ?_|refine rO ?_)
 rw[show decide (0<=x/\x<n)=decide (x<n) by simp[h]]at ag;exact ag
 repeat refine bD ?_
 rw[show decide (0<=x/\x<n)=false by simp[h]]at ag;exact ag
theorem afE(l:List Int)(x:Int)(h:0<=x/\x<l.length):(l.map int)[0+x.toNat*1]?=some (int (l.getD x.toNat 0)):=by simp_all
def B6(l:List Int):Int:=l.foldl max (l.getD 0 0)
theorem ayS{c:Nat}{wr:Bool}(hO:aj H ae)(j:Nat)(bh:ae[j]?=some (s,⟨l.map int,wr⟩))(aE:0<l.length)(sD:l.length<=1000)(ag:ab (int (B6 l)) H):az P 152 [aC s 0 l.length c] H ab:=by
 apply aqC;unfold aao;refine zi ?_
 repeat (first|refine bD ?_|refine rO ?_|refine vw ?_)
 refine aP hO j bh (afE l 0 (by omega)) ?_
 try simp only[cu,cv]
 refine aqB (fun k aF aa=>aa=H/\∃i:Nat,1<=i/\i<=l.length/\k=l.length-i/\∃v,aF=[aC s 0 l.length c,v,int ((l.take i).foldl max (l.getD 0 0)),int i]) _ _ ?_ (l.length-1) _ _ ⟨rfl,1,by omega,by omega,rfl,int 0,?_⟩;rintro k aF aa ⟨rfl,i,h1,h2,rfl,v,rfl⟩;unfold aan
 try simp only[cu,cv]
 repeat (first|refine bD ?_|refine rO ?_)
 refine bz (fun h=>?_) (fun h=>?_)
 repeat refine bD ?_
 refine aP hO j bh (afE l i (by omega)) ?_
 repeat (first|refine bD ?_|refine rO ?_)
 refine⟨_,?_,rfl,i+1,by omega,by omega,rfl,v,?_⟩;omega;have aq:i<l.length:=by omega
 rw[take_succ_eq_append_getElem aq,foldl_append]
 simp_all
 have e:i=l.length:=by omega
 subst e
 repeat refine Bn ?_
 rw[take_of_length_le (Nat.le_refl _)];exact ag;cases l with
 | nil=>rfl
 | cons a r=>simp
theorem afF{n s:Nat}:(mD fF lZ s n).cells.all fE=true:=rfl
theorem ayT(an:∀y∈l,0<=y/\y<=fF)(aE:0<l.length):0<=B6 l/\B6 l<=fF:=by
 have key:∀(r:List Int) (a:Int),0<=a/\a<=fF->(∀y∈r,0<=y/\y<=fF)->0<=r.foldl max a/\r.foldl max a<=fF:=by
  intro r;induction r with
  | nil=>simp_all
  | cons x r a7=>
   intro a h U;have al:=U x (by simp);refine a7 _ ⟨?_,?_⟩ fun y a8=>U y (by simp[a8])
   omega;omega
 cases l with
 | nil=>simp at aE
 | cons a r=>exact key _ _ (an _ (by simp)) an
theorem ayU(hO:aj H ae)(i j:Nat)(aq:ae[i]?=some (d,mD fF lZ s l.length))(bh:ae[j]?=some (s,mE l))(aE:0<l.length)(sD:l.length<=1000)(an:∀y∈l,0<=y/\y<=fF)(Sy:fF<=1099511627776)
  (ag:ab (int (fF-B6 l)) H):az P 84 [ai d 0] H ab:=by
 have hm:=ayT an aE;apply apH;unfold Zf
 repeat refine bD ?_
 refine aP hO i aq rfl ?_
 repeat refine bD ?_
 refine aP hO i aq rfl (ayS hO j bh aE sD (⟨gu hO i aq hO i aq afF,?_⟩))
 repeat refine bD ?_
 exact ag
theorem ayV(hO:aj H ae)(i j:Nat)(aq:ae[i]?=some (d,mD fF lZ s l.length))(bh:ae[j]?=some (s,mE l))(aE:0<l.length)(sD:l.length<=1000)(an:∀y∈l,0<=y/\y<=fF)(Sy:fF<=1099511627776)
  (ag:ab (int (if lZ<=fF-B6 l then 221 else 0)) H):az P 125 [ai d 0] H ab:=by
 apply ap6;unfold ZI;refine ayU hO i j aq bh aE sD an Sy ?_
 repeat refine bD ?_
 refine aP hO i aq rfl (⟨gu hO i aq hO i aq afF,?_⟩)
 repeat refine bD ?_
 refine bz (fun h=>?_) (fun h=>?_);rw[if_pos h]at ag;exact ag;rw[if_neg h]at ag;exact ag
theorem ayW(hO:aj H ae)(i:Nat)(aq:ae[i]?=some (d,mD fF lZ s n))(aN:0<=fF)(Sy:fF<=1099511627776)
  (ag:∀aa,aj aa (ae.set i (d,mD (fF+max 0 (min x (1099511627776-fF))) lZ s n))->ab (.tuple #[]) aa):az P 75 [ai d 0,int x] H ab:=by
 apply apz;unfold Y7
 repeat refine bD ?_
 refine aP hO i aq rfl ?_
 repeat refine bD ?_
 refine aP hO i aq rfl ?_
 repeat (first|refine bD ?_|refine rO ?_)
 refine fm hO i aq rfl (by simp) rfl ?_;intro aa im;exact ag aa im
theorem ayX(hO:aj H ae)(i j:Nat)(aq:ae[i]?=some (d,mD fF lZ s l.length))(bh:ae[j]?=some (s,mE l))
  (ag:∀aa,aj aa (ae.set j (s,mE (if 0<=x/\x<l.length then l.set x.toNat fF else l)))->ab (.bool (decide (0<=x/\x<l.length))) aa):az P 133 [ai d 0,int x] H ab:=by
 apply aqf;unfold ZP;refine ayR hO i aq ?_;by_cases h:0<=x/\x<(l.length:Int);rw[if_pos h,decide_eq_true h]at ag;rw[decide_eq_true h]
 repeat (first|refine bD ?_|refine wB ?_)
 refine aP hO i aq rfl ?_
 repeat refine bD ?_
 refine aP hO i aq rfl ?_
 repeat refine bD ?_
 have e:(l.map int).set (0+x.toNat*1) (int fF)=(l.set x.toNat fF).map int:=by simp_all
 refine fm hO j bh rfl (by grind) e ?_;intro aa im;exact ag aa im;rw[if_neg h,decide_eq_false h]at ag;rw[decide_eq_false h]
 repeat (first|refine bD ?_|refine lV ?_)
 refine ag H ?_;rw[show ae.set j (s,mE l)=ae from ?_];exact hO;apply ext_getElem?
 grind
theorem ayY:qH P 48=⟨tI 1 8 [int 0]⟩:=by rfl
theorem ayZ(a:Int)(x:Option Addr)(n c:Nat):(c9 P 266).f [(1,.int .i64 a),(2,.slice x n c)]=some (.agg #[.int .i64 0,.int .i64 a,.slice x n c]):=by rfl
theorem ay0{afG l4:Int}(hO:aj H ae)
  (ag:∀s d aa,aj aa (ae++[(s,mE (List.replicate (max 1 (min l4 8)).toNat 0)),(d,mD 0 (max 1 (min afG 1000000)) s (max 1 (min l4 8)).toNat)])->ab (ai d 0) aa):az P 83 [int afG,int l4] H ab:=by
 apply apG;unfold Ze
 repeat refine rO ?_
 rw[ayY];have e:max 1 (min l4 8)=((max 1 (min l4 8)).toNat:Int):=by omega
 have bt:(max 1 (min l4 8)).toNat<=8:=by omega
 rw[e];generalize (max 1 (min l4 8)).toNat=w at*;refine FX (k:=.i64) (eE:=.i64) hO (by omega) (by omega) ?_;intro s H hO;rw[ayZ];refine ah rfl (c4 hO ?_);intro d H hO;rw[alk,append_assoc]at hO;refine ag s d H ?_;rw[show(mE (List.replicate w 0))=⟨List.replicate w (int 0),true⟩ by simp[mE]];exact hO
end
end J
namespace J
open Go Go.Ab
structure iY where
 jr:Int
 kb:Int
 v:Nat
abbrev ir:=List (List UInt8×List Int)
def nC:ir->List UInt8->Option (List Int)
 | [],_=>none
 | o::r,k=>if o.1=k then some o.2 else nC r k
def qw(hC:ir)(o:List UInt8×List Int):ir:=if nC hC (hs o.1)=none/\ra o.1=0 then hC++[(hs o.1,o.2)]else hC
def w0(l:ir):ir:=l.foldl qw []
structure jX where
 off:ir
 bj:List iY
 dF:Nat
def iI(b:List Int)(a ef:Int):List Int:=if a<0\/(b.length:Int)<=a\/ef<1 then []else(b.drop a.toNat).take ef.toNat
def jX.next(n:jX):iY×List iY:=match n.bj with
 | []=>(⟨0,0,0⟩,[])
 | f::r=>(f,r)
def Ew(b:List Int)(f:iY):List Int:=if b=[]then b else b.set ((max f.kb 0).toNat%b.length) ((((b.getD ((max f.kb 0).toNat%b.length) 0).toNat ^^^ f.v):Nat):Int)
def oD(all:List Int)(a ef:Int)(f:iY):List Int×Int:=
 if f.jr=1 then([],181)
 else if f.jr=2 then(Ew (iI all a ef) f,0)
 else if f.jr=3 then((iI all a ef).take (max 0 (min f.kb (iI all a ef).length)).toNat,0)
 else if f.jr=4 then(iI all f.kb ef,0)
 else(iI all a ef,0)
def jX.nV(n:jX)(cz:List UInt8)(a ef:Int):(List Int×Int)×jX:=match nC n.off (hs cz)with
 | none=>(([],182),n)
 | some al=>(oD al a ef n.next.1,{n with bj:=n.next.2,dF:=n.dF+1})
structure ff where
 cz:List UInt8
 left:Nat
 dM:Option (Int×dm)
 fb:Int
 bA:Int
def ff.try(l:ff):Bool×ff:=if l.left=0 then(false,{l with bA:=191})else(true,{l with left:=l.left-1})
def ff.yz(l:ff)(a:Int):Bool:=match l.dM with
 | none=>decide (a=-1)
 | some (_,m)=>decide (0<=a/\a<m.bo.length)
def ff.follow(l:ff)(s:j5):ff:=match s with
 | .rk a=>if l.yz a=false then {l with bA:=192}else if l.left=0 then {l with bA:=191}else {l with left:=l.left-1,fb:=a}
 | .nn n m=>if l.dM.isSome=true\/¬en m\/n<0\/n>2304 then {l with bA:=192}else {l with dM:=some (n,m),fb:=0}
 | _=>{l with bA:=192}
def ff.k1(l:ff):Int×Int:=if l.fb=-1 then(0,2304)else match l.dM with
 | none=>(0,0)
 | some (n,m)=>(n+(gm m l.fb).1,(gm m l.fb).2)
def ff.on(l:ff):ff:=match l.dM with
 | none=>{l with fb:=-2}
 | some (_,m)=>if l.fb+1=m.bo.length then {l with fb:=-2}else {l with fb:=l.fb+1}
def mg(n:Nat)(l:ff)(bJ:List (Int×List Int))(eS:List j5)(bI:jX):Bool×ff×List (Int×List Int)×List j5×jX:=
 if l.bA≠0 then(false,l,bJ,eS,bI)
 else match eS with
  | s::r=>(true,l.follow s,bJ,r,bI)
  | []=>if l.fb=-2\/bJ.length=n then(false,l,bJ,[],bI)
   else match bI.nV l.cz l.k1.1 l.k1.2 with
    |((b,e),zZ)=>if e=0 then(true,l.on,bJ++[(l.fb,b)],[],zZ)
     else if e=181 then(true,l.try.2,bJ,[],zZ)
     else(true,{l with bA:=e},bJ,[],zZ)
structure w1 where
 fF:Int
 lZ:Int
 fa:List Int
def w1.LH(d:w1)(i:Nat):w1:={d with fa:=d.fa.set i d.fF}
def w1.R3(d:w1):Int:=d.fF-B6 d.fa
def w1.z1(d:w1)(n:Int):w1:={d with fF:=d.fF+max 0 (min n (1099511627776-d.fF))}
structure dG where
 l:ff
 c:iG
 w:bN
 bI:jX
 d:w1
 st:Int
 iT:Int
def dG.pF(p:dG)(st iT:Int):dG:={p with st:=st,iT:=iT,w:={p.w with s:=p.w.s.drop p.w.cK}}
def dG.lN(p:dG)(eo:Nat)(lN:Bool)(e:Int)(done:Bool):Bool×dG:=
 let q:dG:=if lN then {p with d:=p.d.LH eo}else p
 (lN,if e≠0 then q.pF 3 e else if done then q.pF 2 0 else q)
def dG.afH(p:dG):Bool×dG:=match mg p.c.bU p.l p.c.jA p.c.eS p.bI with
 |(b,l,bJ,eS,bI)=>({p with l:=l,c:={p.c with jA:=bJ,eS:=eS},bI:=bI}:dG).lN 0 b l.bA false
def dG.iK(p:dG):Bool×dG:=({p with c:=p.c.step.2}:dG).lN 1 p.c.step.1 p.c.step.2.bA false
def dG.afI(p:dG):Bool×dG:=
 let r:=({p.w with q:=p.c.iS}:bN).step
 ({p with w:=r.2,c:={p.c with iS:=r.2.q}}:dG).lN 2 r.1 r.2.bA (decide (r.2.dL=4))
def dG.Hh(p:dG):Bool×dG:=if p.d.lZ<=p.d.R3 then(true,p.pF 3 221)else(false,p)
def dG.step(p:dG)(eo:Int):Bool×dG:=
 if p.st≠1 then(false,p)
 else if eo=3 then p.Hh
 else if eo=0 then p.afH
 else if eo=1 then p.iK
 else if eo=2 then p.afI
 else(false,p)
def dG.z1(p:dG)(n:Int):dG:=if p.st=1 then {p with d:=p.d.z1 n}else p
def dG.B7(p:dG):Bool×dG:=if p.st≠1 then(false,p)else(true,p.pF 4 0)
end J
namespace J
open Go Go.Ab
variable[cr:bW]
variable{H:ar}{ae S F X:List (Nat×ay)}{ab:VH}{v aT kv:Value}{ao bu:List Value}{p q o i j bI r1 r2 c7 g:Nat}{e a:Int}{l:ff}{m:dm}
def gv(bI r1 r2:Nat)(l:ff)(kv:Value):List Value:=[ai bI 0,bl l.cz,int l.left,ai r1 0,ai r2 0,kv,int l.fb,int l.bA]
def vO(S:List (Nat×ay))(kv:Value):Option (Int×dm)->Prop
 | none=>kv=.pointer none
 | some (h,m)=>∃(g j:Nat) (aT:Value),kv=ai g 0/\S[j]?=some (g,⟨int h::bM m aT,true⟩)/\eY S aT m.bo/\m.b6
theorem vO.app{x:Option (Int×dm)}(h:vO S kv x):vO (S++X) kv x:=by
 cases x with
 | none=>exact h
 | some y=>obtain⟨g,j,aT,h1,h2,aB,bk⟩:=h;exact⟨g,j,aT,h1,aK h2,aB.app,bk⟩
theorem vO.e5{x:Option (Int×dm)}(h:vO S kv x):eA kv=true:=by
 cases x with
 | none=>rw[show kv=.pointer none from h];rfl
 | some y=>obtain⟨g,j,aT,rfl,_⟩:=h;rfl
theorem LI(hO:aj H ae){b c0:ay}(aq:ae[i]?=some (p,b))(bh:ae[j]?=some (q,c0))(p9:i≠j):p≠q:=by
 intro e;subst e;have aR:=hO.su;have h1:(ae.map (·.1))[i]?=some p:=by simp_all
 have h2:(ae.map (·.1))[j]?=some p:=by simp_all
 grind[List.getElem?_inj]
theorem afJ{x:Nat}:∀ {l:List Nat},(∀y∈l,x≠y)->sb x l=false:=by grind[sb,j0,eq_of_beq_eq_true]
theorem ay1{o:Nat}{l:List Value}(h:∀i∈b9 l,p≠i):pG (b9 [ai p o]) (b9 l):=by unfold pG nJ;show cond (not (sb p (b9 l))) true false=true;rw[afJ h];rfl
theorem tv{v:Value}(hO:aj H (ae++[(p,⟨ao,true⟩)]))(h1:eA v=true)(aR:o<ao.length)(aD:ao.set o v=bu)(ag:∀aa,aj aa (ae++[(p,⟨bu,true⟩)])->ab undef aa):af (bm 1 (ai p o) v H) ab:=
 fm hO (ae.length+0) (aA rfl) h1 aR aD fun aa h=>ag aa (by rw[Go.Ab.cb]at h;exact h)
theorem yA(hO:aj H (ae++[(p,⟨ao,true⟩)]))(hv:ao[o]?=some v)(ag:ab v H):af (ax (ai p o) H) ab:=aP hO (ae.length+0) (aA rfl) hv ag
theorem afK(c:Bool):(au P .eql 242 c).f (.pointer none) (.pointer none)=some (.bool true):=by rfl
theorem afL(c:Bool)(p:Nat):(au P .eql 242 c).f (ai p 0) (.pointer none)=some (.bool false):=by rfl
theorem ay2(c:Bool):(au P .neq 242 c).f (.pointer none) (.pointer none)=some (.bool false):=by rfl
theorem ay3(c:Bool)(p:Nat):(au P .neq 242 c).f (ai p 0) (.pointer none)=some (.bool true):=by rfl
theorem ay4(x:Value):mi 313 (hX P 313) (.iface 313 x)=some (.tuple #[x,.bool true]):=by rfl
theorem ay5(x:Value):mi 313 (hX P 313) (.iface 316 x)=some (.tuple #[agg [int 0],.bool false]):=by rfl
theorem ay6(x:Value):mi 313 (hX P 313) (.iface 327 x)=some (.tuple #[agg [int 0],.bool false]):=by rfl
theorem ay7(x:Value):mi 313 (hX P 313) (.iface 320 x)=some (.tuple #[agg [int 0],.bool false]):=by rfl
theorem LJ:cQ P 313=[int 0]:=by rfl
theorem afM(aE:l.left<=1000)(hO:aj H (ae++[(c7,⟨gv bI r1 r2 l kv,true⟩)]))(ag:∀aa,aj aa (ae++[(c7,⟨gv bI r1 r2 l.try.2 kv,true⟩)])->ab (.bool l.try.1) aa):az P 132 [ai c7 0] H ab:=by apply aqe;unfold ZO;unfold ff.try at ag;refine aU (yA hO (v:=int l.left) rfl (ah fl (bz (fun h=>?_) (fun h=>?_))));rw[if_pos (by omega)]at ag;exact aU (tv hO rfl (show 7<8 by omega) rfl ag);rw[if_neg (by omega)]at ag;exact aU (yA hO (v:=int l.left) rfl (ah (v:=int ((l.left-1:Nat):Int)) (by grind[mu]) (aU (tv hO rfl (show 2<8 by omega) rfl ag))))
theorem ay8(fY:vO S kv l.dM)(hO:aj H ((S++F)++[(c7,⟨gv bI r1 r2 l kv,true⟩)]))(ag:ab (.bool (l.yz a)) H):az P 185 [ai c7 0,int a] H ab:=by
 apply aqP;unfold aaD;unfold ff.yz at ag;refine aU (yA hO (v:=kv) rfl ?_);cases al:l.dM with
 | none=>rw[al]at fY ag;rw[show kv=.pointer none from fY];exact ah (afK _) (fg rfl (ah fl ag))
 | some y=>obtain⟨h,m⟩:=y;rw[al]at fY ag;obtain⟨g,j,aT,rfl,bh,kU,ok⟩:=fY;refine ah (afL _ _) (et rfl (ah ss (bz (fun aN=>?_) (fun aN=>?_))));refine aU (yA hO (v:=ai g 0) rfl (aU (ah b0 (aP hO j (aK (aK bh)) (v:=aT) (by show(bM m aT)[0+36]?=_;exact q8 ok.cX) (bV kU.bP (ah ez (ah (hT aN) ?_)))))));simp only[aN,true_and]at ag;exact ag;refine ah (ho aN) ?_;simp only[aN,false_and,decide_false]at ag;exact ag
theorem ay9(fY:vO S kv l.dM)(aM:-2<=l.fb/\l.fb<=1000)(hO:aj H ((S++F)++[(c7,⟨gv bI r1 r2 l kv,true⟩)]))(ag:∀aa,aj aa ((S++F)++[(c7,⟨gv bI r1 r2 l.on kv,true⟩)])->ab (.tuple [].toArray) aa):az P 131 [ai c7 0] H ab:=by
 apply aqd;unfold ZN;unfold ff.on at ag;refine aU (yA hO (v:=int l.fb) rfl (ah (v:=int (l.fb+1)) (jg (by omega) (by omega)) (aU (tv hO rfl (show 6<8 by omega) (bu:=gv bI r1 r2 {l with fb:=l.fb+1} kv) rfl ?_))));intro H hO;refine e6 (fun aF aa=>aa=H/\aF=[ai c7 0,.bool (match l.dM with|none=>true|some (_,m)=>decide (l.fb+1=m.bo.length))]) ?_ ?_;refine aU (yA hO (v:=kv) rfl ?_);cases al:l.dM with
 | none=>rw[al]at fY;rw[show kv=.pointer none from fY];exact ah (afK _) (fg rfl (ah ll (⟨rfl,rfl⟩)))
 | some y=>obtain⟨h,m⟩:=y;rw[al]at fY;obtain⟨g,j,aT,rfl,bh,kU,ok⟩:=fY;exact ah (afL _ _) (et rfl (aU (yA hO (v:=int (l.fb+1)) rfl (aU (yA hO (v:=ai g 0) rfl (aU (ah b0 (aP hO j (aK (aK bh)) (v:=aT) (by show(bM m aT)[0+36]?=_;exact q8 ok.cX) (bV kU.bP (ah fl (ah mr (⟨rfl,rfl⟩))))))))))))
 rintro aF aa ⟨rfl,rfl⟩
 try simp only[cu,cv]
 cases al:l.dM with
 | none=>rw[al]at ag;exact fg rfl (aU (tv hO rfl (show 6<8 by omega) rfl ag))
 | some y=>obtain⟨h,m⟩:=y;rw[al]at ag;simp only at ag;refine bz (fun aD=>?_) (fun aD=>?_);rw[if_pos aD]at ag;exact aU (tv hO rfl (show 6<8 by omega) rfl ag);rw[if_neg aD]at ag;exact ag aa hO
end J
namespace J
open Go Go.Ab
variable[cr:bW]
variable{H:ar}{hH bX S F X N:List (Nat×ay)}{ab:VH}{v aT kv:Value}{ao bu:List Value}{k j bI r1 r2 c7 g:Nat}{a h8:Int}{l:ff}{eC:j5}{m gC:dm}
theorem Hi(h:aj H (((S++F)++hH)++N)):aj H ((S++(F++N))++hH):=h.e4 (by rw[append_assoc,<- append_assoc S F N,append_assoc (S++F) N hH];exact List.Perm.append_left (S++F) perm_append_comm)
theorem z6(h:aj H ((S++(F++N))++hH)):aj H ((S++F)++hH):=h.sub (by refine List.Sublist.append_right ?_ hH;exact List.Sublist.append_left (sublist_append_left F N) S)
theorem afN(h:aj H (((S++F)++hH)++N)):aj H (((S++N)++F)++hH):=h.e4 (by rw[append_assoc S N F,append_assoc S (N++F) hH,append_assoc,append_assoc S F (hH++N)];refine List.Perm.append_left S ?_;rw[<- append_assoc F hH N,append_assoc N F hH];exact perm_append_comm)
theorem aza(fY:vO S kv l.dM)(aE:l.left<=1000)(aR:vI S eC [v])(hO:aj H ((S++F)++[(c7,⟨gv bI r1 r2 l kv,true⟩)]))
  (ag:∀aa w2 X,vO (S++X) w2 (l.follow eC).dM->aj aa (((S++X)++F)++[(c7,⟨gv bI r1 r2 (l.follow eC) w2,true⟩)])->ab (.tuple [].toArray) aa):az P 127 [ai c7 0,v] H ab:=by
 apply ap9;unfold PX;refine c4 hO ?_;intro bw H hO
 replace hO:aj H ((S++(F++[(bw,⟨[ai c7 0],true⟩)]))++[(c7,⟨gv bI r1 r2 l kv,true⟩)]):=Hi hO
 have h2:∀ {hS:List (Nat×ay)} {vN bX},((hS++((F++[(bw,(⟨[ai c7 0],true⟩:ay))])++vN))++bX)[hS.length+(F.length+0)]?=some (bw,⟨[ai c7 0],true⟩):=aK (aA (aK (aA rfl)));have pP:∀ {H:ar} {vN X},aj H (((S++X)++((F++[(bw,(⟨[ai c7 0],true⟩:ay))])++vN))++[(c7,⟨gv bI r1 r2 l kv,true⟩)])->l.follow eC={l with bA:=192}->af (ax (ai bw 0) H) fun Sl Sm=>
   ad (rv Sl) fun Sn=>ad (bF 7 Sn) fun t46=>af (bm 1 t46 (.int .i64 192) Sm) fun Sp Sq=>ab (.tuple [].toArray) Sq:=by
  intro H vN X hO he;refine aP hO _ h2 (v:=ai c7 0) rfl (aU (tv hO rfl (show 7<8 by omega) (bu:=gv bI r1 r2 {l with bA:=192} kv) rfl ?_));intro aa im;rw[he]at ag;exact ag aa kv X fY.app (z6 (z6 im))
 have bk:∀ {hS:List (Nat×ay)} {cM:Nat} {nv:List Value} {bX},((hS++((F++[(bw,(⟨[ai c7 0],true⟩:ay))])++[(cM,(⟨nv,true⟩:ay))]))++bX)[hS.length+((F++[(bw,(⟨[ai c7 0],true⟩:ay))]).length+0)]?=some (cM,⟨nv,true⟩):=aK (aA (aA rfl));cases eC with
 | rk a=>
  have aR:[v]=[.iface 313 (agg [int a])]:=aR;injection aR with aR _
  subst aR;refine ah (ay4 _) (ah (show _=some (agg [int a])from rfl) (ah (show _=some (Value.bool true)from rfl) ?_));rw[LJ];refine c4 hO ?_;intro cM H hO;refine e7 hO (_+0) (aA rfl) rfl rfl rfl ?_;intro H hO
  replace hO:=Hi hO.cb
  replace hO:aj H ((S++((F++[(bw,⟨[ai c7 0],true⟩)])++[(cM,⟨[int a],true⟩)]))++[(c7,⟨gv bI r1 r2 l kv,true⟩)]):=hO
  have azb:aj H (((S++[])++((F++[(bw,⟨[ai c7 0],true⟩)])++[(cM,⟨[int a],true⟩)]))++[(c7,⟨gv bI r1 r2 l kv,true⟩)]):=by rw[append_nil];exact hO
  refine fg rfl (aP hO _ h2 (v:=ai c7 0) rfl (ah b0 (aP hO _ bk (v:=int a) rfl (ay8 fY hO (ah jF ?_)))));cases aD:l.yz a with
  | false=>exact fg rfl (pP azb (by simp_all[ff.follow]))
  | true=>
   refine et rfl (aP hO _ h2 (v:=ai c7 0) rfl (afM aE hO ?_));intro H hO;unfold ff.try at hO⊢;by_cases aN:l.left=0;rw[if_pos aN]at hO⊢;refine et rfl ?_;have he:l.follow (.rk a)={l with bA:=191}:=by simp_all[ff.follow]
   rw[he]at ag;exact ag H kv [] fY.app (by rw[append_nil];exact z6 (z6 hO));rw[if_neg aN]at hO⊢;refine fg rfl (aP hO _ h2 (v:=ai c7 0) rfl (ah b0 (aP hO _ bk (v:=int a) rfl (aU (tv hO rfl (show 6<8 by omega) (bu:=gv bI r1 r2 {l with left:=l.left-1,fb:=a} kv) rfl ?_)))));intro aa im;have he:l.follow (.rk a)={l with left:=l.left-1,fb:=a}:=by simp_all[ff.follow]
   rw[he]at ag;exact ag aa kv [] fY.app (by rw[append_nil];exact z6 (z6 im))
 | nn h8 gC=>
  obtain⟨aT,aR,kU,ok⟩:=aR;injection aR with aR _
  subst aR;refine ah (ay5 _) (ah (show _=some (agg [int 0])from rfl) (ah (show _=some (Value.bool false)from rfl) ?_));rw[LJ];refine c4 hO ?_;intro cM H hO;refine e7 hO (_+0) (aA rfl) rfl rfl rfl ?_;intro H hO
  replace hO:=Hi hO.cb
  replace hO:aj H ((S++((F++[(bw,⟨[ai c7 0],true⟩)])++[(cM,⟨[int 0],true⟩)]))++[(c7,⟨gv bI r1 r2 l kv,true⟩)]):=hO
  refine et rfl (ah (afq _) (ah (show _=some (Value.bool true)from rfl) (fg rfl (ah (aft _) (c4 hO ?_)))));intro gH H hO;refine e7 (cL:=int h8::bM gC aT) hO (_+0) (aA rfl) (by rfl) (by rw[length_cons,el ok.cX]) (by rw[all_cons,nf kU.e5];rfl) ?_;intro H hO
  replace hO:=afN hO.cb
  replace hO:aj H (((S++[(gH,⟨int h8::bM gC aT,true⟩)])++((F++[(bw,⟨[ai c7 0],true⟩)])++[(cM,⟨[int 0],true⟩)]))++[(c7,⟨gv bI r1 r2 l kv,true⟩)]):=hO
  have dh:∀ {vP bX:List (Nat×ay)},(((S++[(gH,(⟨int h8::bM gC aT,true⟩:ay))])++vP)++bX)[S.length+0]?=some (gH,⟨int h8::bM gC aT,true⟩):=aK (aK (aA rfl));refine e6 (fun aF aa=>aj aa (((S++[(gH,⟨int h8::bM gC aT,true⟩)])++((F++[(bw,⟨[ai c7 0],true⟩)])++[(cM,⟨[int 0],true⟩)]))++[(c7,⟨gv bI r1 r2 l kv,true⟩)])/\aF=[ai bw 0,ai gH 0,.bool (decide (l.dM.isSome=true\/¬en gC\/h8<0\/h8>2304))]) ?_ ?_;refine aP hO _ h2 (v:=ai c7 0) rfl (aU (yA hO (v:=kv) rfl ?_));cases al:l.dM with
  | some y=>obtain⟨h,m⟩:=y;rw[al]at fY;obtain⟨g,j,l9,rfl,_⟩:=fY;exact ah (ay3 _ _) (fg rfl (ah ll (ah ll (ah ll (⟨hO,by simp⟩)))))
  | none=>
   rw[al]at fY;rw[show kv=.pointer none from fY];refine ah (ay2 _) (et rfl (ah b0 (hG (ao:=bM gC aT) hO _ dh (by show((int h8::bM gC aT).drop 1).take 37=_;rw[drop_one,tail_cons];exact take_of_length_le (by rw[el ok.cX];omega)) (el ok.cX) (by omega) (Eg ok (kU.app.app.app) hO ?_))));intro H hO;refine ah jF ?_;by_cases U:en gC;rw[decide_eq_true U];refine ah mr (et rfl (ah b0 (aP hO _ dh (v:=int h8) rfl (ah ez (ah mr (bz (fun h=>?_) (fun h=>?_)))))));refine ah (hT h) ?_;rw[show kv=.pointer none from fY]at*
   simp_all
   refine ah b0 (aP hO _ dh (v:=int h8) rfl (ah kQ (ah (ho h) ?_)));rw[show kv=.pointer none from fY]at*
   grind
   rw[decide_eq_false U];refine ah mr (fg rfl (ah ll (ah ll ?_)));rw[show kv=.pointer none from fY]at*
   simp_all
  rintro aF H ⟨hO,rfl⟩
  try simp only[cu,cv]
  refine bz (fun h=>?_) (fun h=>?_);exact pP hO (by simp_all[ff.follow]);have he:l.follow (.nn h8 gC)={l with dM:=some (h8,gC),fb:=0}:=by simp_all[ff.follow]
  rw[he]at ag;refine aP hO _ h2 (v:=ai c7 0) rfl (aP hO _ h2 (v:=ai c7 0) rfl ?_);have eZ:bw≠c7:=LI hO h2 (aA (k:=0) rfl) (by grind);have fI:bw≠gH:=LI hO h2 dh (by grind);refine aU (tv hO rfl (show 5<8 by omega) (bu:=gv bI r1 r2 l (ai gH 0)) rfl ?_);intro H hO;refine⟨ay1 (by simp_all[b9,CA]),?_⟩;refine aU (tv hO rfl (show 6<8 by omega) (bu:=gv bI r1 r2 {l with dM:=some (h8,gC),fb:=0} (ai gH 0)) rfl ?_);intro aa im;exact ag aa (ai gH 0) [(gH,⟨int h8::bM gC aT,true⟩)] ⟨gH,_,aT,rfl,aA (k:=0) rfl,kU.app,ok⟩ (z6 (z6 im))
 | body a bs=>
  obtain⟨dS,aR,jh,nj⟩:=aR;injection aR with aR _
  subst aR;refine ah (ay6 _) (ah (show _=some (agg [int 0])from rfl) (ah (show _=some (Value.bool false)from rfl) ?_));rw[LJ];refine c4 hO ?_;intro cM H hO;refine e7 hO (_+0) (aA rfl) rfl rfl rfl ?_;intro H hO
  replace hO:=Hi hO.cb
  replace hO:aj H (((S++[])++((F++[(bw,⟨[ai c7 0],true⟩)])++[(cM,⟨[int 0],true⟩)]))++[(c7,⟨gv bI r1 r2 l kv,true⟩)]):=by rw[append_nil];exact hO
  exact et rfl (ah (afr _) (ah (show _=some (Value.bool false)from rfl) (et rfl (pP hO rfl))))
 | ed=>
  have aR:[v]=[.iface 320 (agg [])]:=aR;injection aR with aR _
  subst aR;refine ah (ay7 _) (ah (show _=some (agg [int 0])from rfl) (ah (show _=some (Value.bool false)from rfl) ?_));rw[LJ];refine c4 hO ?_;intro cM H hO;refine e7 hO (_+0) (aA rfl) rfl rfl rfl ?_;intro H hO
  replace hO:=Hi hO.cb
  replace hO:aj H (((S++[])++((F++[(bw,⟨[ai c7 0],true⟩)])++[(cM,⟨[int 0],true⟩)]))++[(c7,⟨gv bI r1 r2 l kv,true⟩)]):=by rw[append_nil];exact hO
  exact et rfl (ah (afs _) (ah (show _=some (Value.bool false)from rfl) (et rfl (pP hO rfl))))
end J
namespace J
open Go Go.Ab
variable[cr:bW]
variable{H:ar}{ae bX S F X:List (Nat×ay)}{ab:VH}{v w fv:Value}{ao bu:List Value}{p q o k n j bU cd dF:Nat}{e a ef:Int}{ak:List Int}{bj gs:List iY}{f:iY}
abbrev h9(f:iY):List Value:=[int f.jr,int f.kb,bQ .u8 f.v]
def oE(bj:List iY):List Value:=bj.flatMap h9
theorem Sz(bj:List iY):(oE bj).length=bj.length*3:=by
 induction bj with
 | nil=>rfl
 | cons f r a7=>show(h9 f++oE r).length=(r.length+1)*3;grind
theorem azc(bj gs:List iY):oE (bj++gs)=oE bj++oE gs:=by simp_all[oE]
def gZ(ae:List (Nat×ay))(v:Value)(bj:List iY):Prop:=
 (v=bq/\bj=[])\/∃p o c,v=aC p o bj.length c/\(c=6\/c=7)/\(bj=[]\/∃(j:Nat) (b:ay),ae[j]?=some (p,b)/\(b.cells.drop o).take (bj.length*3)=oE bj)
theorem gZ.nil:gZ ae bq []:=.inl ⟨rfl,rfl⟩
theorem gZ.kz(h:gZ ae v bj):∃a n c,v=.slice a n c:=by rcases h with⟨rfl,_⟩|⟨p,o,c,rfl,_⟩<;>exact⟨_,_,_,rfl⟩
theorem gZ.e5(h:gZ ae v bj):eA v=true:=by obtain⟨a,n,c,rfl⟩:=h.kz;rfl
theorem gZ.q9(h:gZ ae v bj):fE v=true:=by rcases h with⟨rfl,_⟩|⟨p,o,c,rfl,_⟩<;>rfl
theorem gZ.bP(h:gZ ae v bj):bP v H=some (int bj.length,H):=by rcases h with⟨rfl,rfl⟩|⟨p,o,c,rfl,_⟩<;>rfl
theorem gZ.mM(h:gZ ae v bj):mM v=some bj.length:=by rcases h with⟨rfl,rfl⟩|⟨p,o,c,rfl,_⟩<;>rfl
theorem gZ.app(h:gZ ae v bj):gZ (ae++bX) v bj:=by
 rcases h with h|⟨p,o,c,h1,h2,aB|⟨j,b,aB,bk⟩⟩
 exact .inl h;exact .inr ⟨p,o,c,h1,h2,.inl aB⟩;exact .inr ⟨p,o,c,h1,h2,.inr ⟨j,b,aK aB,bk⟩⟩
theorem azd{b:ay}(h:(b.cells.drop o).take (bj.length*3)=oE bj):bj.length*3<=b.cells.length-o:=by
 have:=congrArg List.length h
 grind[Sz]
theorem gZ.pB(hO:aj H ae)(h:gZ ae v bj):r7 H 3 bj.length v=some (oE bj):=by
 rcases h with⟨rfl,rfl⟩|⟨p,o,c,rfl,_,rfl|⟨j,b,aB,bk⟩⟩
 rfl;rfl;by_cases al:bj=[];subst al;rfl;have aN:0<bj.length:=length_pos_iff.2 al;have aE:=azd bk;rw[Dq (hO.at j aB (.inr (fun e=>by grind))) (by omega),bk]
theorem aze{p o n c:Nat}(aD:c=6\/c=7):gL 3 (aC p o (n+1) c) (some (int 1)) none none=some (aC p (o+3) n c):=by
 have e:Nat.beq (n+1) (n+1)=true:=beq_refl _;rcases aD with rfl|rfl
 rfl;show some (Value.slice (some ⟨p,o+1*3,none⟩) (n+1-1) (cond (false||Nat.beq (n+1) (n+1)) 7 6))=_
 grind
theorem azf{l jj:List Value}{n:Nat}(h:l.take ((n+1)*3)=h9 f++jj):l.take 3=h9 f/\(l.drop 3).take (n*3)=jj:=by
 have h1:=congrArg (List.take 3) h;have h2:=congrArg (List.drop 3) h
 grind[drop_take]
theorem gZ.cons(h:gZ ae v (f::bj)):∃p o c,∃(j:Nat) (b:ay),v=aC p o (bj.length+1) c/\ae[j]?=some (p,b)/\(b.cells.drop o).take 3=h9 f/\gL 3 v (some (int 1)) none none=some (aC p (o+3) bj.length c)/\gZ ae (aC p (o+3) bj.length c) bj:=by
 rcases h with⟨_,h⟩|⟨p,o,c,rfl,aD,h|⟨j,b,aB,bk⟩⟩
 cases h;cases h;have cj:=azf (n:=bj.length) (show(b.cells.drop o).take ((bj.length+1)*3)=h9 f++oE bj from bk);refine⟨p,o,c,j,b,rfl,aB,cj.1,aze aD,.inr ⟨p,o+3,c,rfl,aD,.inr ⟨j,b,aB,?_⟩⟩⟩
 simp_all
theorem LK(hO:aj H (S++F))(hv:(v=bq/\bj=[])\/((∃p o,v=aC p o bj.length 7)/\gZ S v bj))(al:gZ S w gs)(aE:bj.length+gs.length<=1000000)
  (ag:∀aa aH X,aj aa ((S++F)++X)->gZ (S++X) aH (bj++gs)->ab aH aa):af (fu 3 24 v w H) ab:=by
 unfold fu;simp only[al.mM,al.app.pB hO];by_cases aN:gs=[];subst aN;have U:gZ S v bj:=by
  rcases hv with⟨rfl,rfl⟩|⟨_,h⟩
  exact .nil;exact h
 have sA:=ag H v [] (by rw[append_nil];exact hO) (by rw[append_nil bj];exact U.app);rcases hv with⟨rfl,rfl⟩|⟨⟨p,o,rfl⟩,_⟩
 exact bV rfl sA;exact bV rfl sA;have hg:0<gs.length:=length_pos_iff.2 aN;have an:Nat.beq gs.length 0=false:=by grind[eq_of_beq_eq_true]
 rcases hv with⟨rfl,rfl⟩|⟨⟨p,o,rfl⟩,h⟩
 unfold qE;simp only[an,Bool.false_eq_true,if_false];rw[if_pos (wz (by omega) (by omega))];refine bV (show lO (oE gs) gs.length (2*3) H=some (aC H.next 0 gs.length 6,H.push (oE gs))from rfl) (ag _ _ _ (hO.push (oE gs)) (.inr ⟨H.next,0,6,rfl,.inl rfl,.inr ⟨_,_,aA (k:=0) rfl,?_⟩⟩))
 simp_all[take_of_length_le,Sz]
 unfold qE;simp only[an,Bool.false_eq_true,if_false];rw[if_pos (wz (by omega) (by omega))];rw[if_pos (show Nat.beq 7 (2*3+1)=true from rfl)];unfold yH;have he:=h.app.pB hO;have xA:(if Nat.beq bj.length 0 then some []else r5 H p o (bj.length*3))=some (oE bj):=he;rw[xA];simp only;rw[iv];refine bV (show lO (oE bj++oE gs) (bj.length+gs.length) (2*3) H=some (aC H.next 0 (bj.length+gs.length) 6,H.push (oE bj++oE gs))from rfl) (ag _ _ _ (hO.push _) (.inr ⟨H.next,0,6,by simp_all,.inl rfl,.inr ⟨_,_,aA (k:=0) rfl,?_⟩⟩))
 grind[azc,Sz]
theorem afO:P.underlying 24=some (.slice 61):=by rfl
theorem SA(H:ar):(eg P 24 0).f [] H=some (aC H.next 0 0 7,H.push []):=by rfl
theorem azg(hO:aj H (S++F))(hv:gZ S v bj)(aE:bj.length<=100000)(ag:∀aa aH X,aj aa ((S++F)++X)->gZ (S++X) aH bj->ab aH aa):az P 121 [v] H ab:=by
 apply ap4;unfold ZG;have hJ:=hv;rcases hv with⟨rfl,rfl⟩|⟨p,o,c,rfl,_⟩
 exact ah (JM afO) (fg rfl (ag H bq [] (by rw[append_nil];exact hO) .nil));refine ah (JM afO) (et rfl (gj hO (SA _) ?_));intro q H hO;rw[append_assoc]at hO;refine LK (bj:=[]) hO (.inr ⟨⟨q,0,rfl⟩,.inr ⟨q,0,7,rfl,.inr rfl,.inl rfl⟩⟩) hJ (by grind) ?_;intro aa aH X im U;refine ag aa aH X (im.sub ?_) U;refine List.Sublist.append_right ?_ X;rw[<- append_assoc];exact sublist_append_left _ _
theorem afP(hO:aj H ae)(hv:b3 ae v ak)(aE:ak.length<=1000000)(ag:yc ae ab (iI ak a ef)):az P 227 [v,int a,int ef] H ab:=by
 apply ark;unfold abb;have pP:(a<0\/(ak.length:Int)<=a\/ef<1)->ab bq H:=by intro h;unfold iI at ag;rw[if_pos h]at ag;exact ag.none hO
 refine e6 (fun aF aa=>aF=[v,int a,int ef]/\aa=H/\0<=a/\a<ak.length/\1<=ef) ?_ ?_;refine ah ez (bz (fun h=>?_) (fun h=>?_));exact ah (hT h) (ah ll (fg rfl (pP (.inl h))));refine bV hv.bP (ah ss (ah (ho h) (bz (fun h2=>?_) (fun h2=>?_))));exact ah (hT h2) (fg rfl (pP (.inr (.inl h2))));refine ah ez (ah (ho h2) (bz (fun aB=>?_) (fun aB=>?_)));exact pP (.inr (.inr aB));exact⟨rfl,rfl,by omega,by omega,by omega⟩;rintro aF aa ⟨rfl,rfl,h1,h2,aB⟩
 try simp only[cu,cv]
 unfold iI at ag;rw[if_neg (by omega)]at ag;obtain⟨n,rfl⟩:=Int.eq_ofNat_of_zero_le h1;obtain⟨m,rfl⟩:=Int.eq_ofNat_of_zero_le (show 0<=ef by omega);simp only[Int.ofNat_eq_natCast,Int.toNat_natCast]at*;obtain⟨dS,bb,i1⟩:=KB hv (n:=n) (by omega);refine ah bb ?_;have r1:=i1 ae hv;refine bV r1.bP (bV vr ?_);rw[show min (m:Int) ((ak.drop n).length:Int)=((min m (ak.drop n).length:Nat):Int) by omega];obtain⟨dD,bt,jR⟩:=wM r1 (n:=min m (ak.drop n).length) (by omega);refine ah bt (Kx hO (jR ae r1) (by grind) ?_);rw[show(ak.drop n).take (min m (ak.drop n).length)=(ak.drop n).take m by simp_all];exact ag
def fQ(cd:Nat)(fv:Value)(dF:Nat):List Value:=[vx cd,fv,int dF]
theorem LL:cQ P 61=h9 ⟨0,0,0⟩:=by rfl
theorem SB:(c9 P 61).f []=some (agg (h9 ⟨0,0,0⟩)):=by rfl
theorem azh(hf:gZ S fv bj)(hO:aj H ((S++F)++[(bU,⟨fQ cd fv dF,true⟩)]))
  (ag:∀aa iU,gZ S iU (jX.next ⟨[],bj,0⟩).2->aj aa ((S++F)++[(bU,⟨fQ cd iU dF,true⟩)])->ab (agg (h9 (jX.next ⟨[],bj,0⟩).1)) aa):az P 226 [ai bU 0] H ab:=by
 generalize er:S++F=ae at*;apply arj;unfold aba;rw[LL];refine c4 hO ?_;intro dJ H hO;have aR:∀ {bX} {fv:Value},((ae++[(bU,(⟨fQ cd fv dF,true⟩:ay))])++bX)[ae.length+0]?=some (bU,⟨fQ cd fv dF,true⟩):=aK (aA rfl);refine aU (aP hO _ aR (v:=fv) rfl (bV hf.bP (ah fl ?_)));cases bj with
 | nil=>
  refine fg (by simp) (ah SB (e7 hO (_+0) (aA rfl) rfl rfl rfl ?_));intro H hO
  replace hO:=hO.cb
  exact fs hO (_+0) (aA rfl) rfl (by omega) (ag H fv hf hO.left)
 | cons f bj=>
  refine et (by rfl) ?_;obtain⟨p,o,c,j,b,rfl,bh,aB,bk,cj⟩:=hf.cons
  replace bh:ae[j]?=some (p,b):=by grind
  refine aU (aP hO _ aR (v:=aC p o (bj.length+1) c) rfl (ah (h4 (by omega) (by omega)) (hG (ao:=h9 f) hO j (aK (aK bh)) (by simp_all) rfl (by omega) (c4 hO ?_))));intro t3 H hO;refine e7 hO (_+0) (aA rfl) rfl rfl rfl ?_;intro H hO
  replace hO:=hO.cb
  refine aU (aP hO _ (aK aR) (v:=aC p o (bj.length+1) c) rfl (ah bk (aU (fm hO (ae.length+0) (aK aR) cj.e5 (show 1<3 by omega) (bu:=fQ cd (aC p (o+3) bj.length c) dF) rfl ?_))));intro H hO;rw[append_assoc (ae++_),append_assoc ae,Go.Ab.cb]at hO
  replace hO:aj H (ae++((bU,⟨fQ cd (aC p (o+3) bj.length c) dF,true⟩)::[(dJ,⟨h9 ⟨0,0,0⟩,true⟩),(t3,⟨h9 f,true⟩)])):=hO
  refine fs hO (ae.length+2) (aA rfl) rfl (by omega) (e7 hO (ae.length+1) (aA rfl) rfl rfl rfl ?_);intro H hO;rw[Go.Ab.cb]at hO;refine fs hO (ae.length+1) (aA rfl) rfl (by omega) (ag H _ cj (hO.sub ?_));exact List.Sublist.append_left (List.Sublist.cons_cons _ (nil_sublist _)) ae
end J
namespace J
open Go Go.Ab
variable[cr:bW]
variable{H:ar}{ae hH bX S F X N:List (Nat×ay)}{ab:VH}{v fv kv:Value}{T ao bu:List Value}{p o n i bU cd dF:Nat}{a ef:Int}{ak:List Int}{bj:List iY}{f:iY}{cz k:List UInt8}{off:ir}{bI:jX}
def tw(ae:List (Nat×ay)):List Value->ir->Prop
 | [],[]=>True
 | kv::v::T,o::r=>kv=bl o.1/\b3 ae v o.2/\cl o.2/\o.2.length<=10000/\tw ae T r
 | _,_=>False
theorem tw.app:∀ {T:List Value} {off:ir},tw ae T off->tw (ae++bX) T off
 | [],[],_=>trivial
 | kv::v::T,o::r,h=>⟨h.1,h.2.1.app,h.2.2.1,h.2.2.2.1,h.2.2.2.2.app⟩
 | [],_::_,h=>h.elim
 | [_],[],h=>h.elim
 | [_],_::_,h=>h.elim
 | _::_::_,[],h=>h.elim
theorem tw.kZ:∀ {T:List Value} {off:ir},tw ae T off->b3 ae v ak->cl ak->ak.length<=10000->tw ae (T++[bl k,v]) (off++[(k,ak)])
 | [],[],_,h1,h2,aB=>⟨rfl,h1,h2,aB,trivial⟩
 | kv::v::T,o::r,h,h1,h2,aB=>⟨h.1,h.2.1,h.2.2.1,h.2.2.2.1,h.2.2.2.2.kZ h1 h2 aB⟩
 | [],_::_,h,_,_,_=>h.elim
 | [_],[],h,_,_,_=>h.elim
 | [_],_::_,h,_,_,_=>h.elim
 | _::_::_,[],h,_,_,_=>h.elim
theorem azi(a b:List UInt8):Cw true (bl a) (bl b)=some (decide (a=b)):=by
 have h:Cw true (bl a) (bl b)=some (a.toArray==b.toArray):=rfl;rw[h];congr 1
 grind
theorem tw.SC:∀ {T:List Value} {off:ir},tw ae T off->(k:List UInt8)->(nC off k=none/\vU true (bl k) T=some none)\/∃bs v,nC off k=some bs/\vU true (bl k) T=some (some v)/\b3 ae v bs/\cl bs/\bs.length<=10000
 | [],[],_,_=>.inl ⟨rfl,rfl⟩
 | kv::v::T,o::r,⟨h1,h2,aB,bk,cj⟩,k=>by
  subst h1;unfold nC vU;rw[azi];by_cases ag:k=o.1
  grind
  rw[decide_eq_false ag,if_neg (fun h=>ag h.symm)];exact cj.SC k
 | [],_::_,h,_=>h.elim
 | [_],[],h,_=>h.elim
 | [_],_::_,h,_=>h.elim
 | _::_::_,[],h,_=>h.elim
structure pU (S:List (Nat×ay)) (cd:Nat) (fv:Value) (n:jX):Prop where
 of:∃T,eD cr.l cd=some (jN T)/\tw S T n.off
 bj:gZ S fv n.bj
 B8:∀f∈n.bj,f.v<256
theorem pU.app(h:pU S cd fv bI):pU (S++X) cd fv bI:=by obtain⟨⟨T,h1,h2⟩,aB,bk⟩:=h;exact⟨⟨T,h1,h2.app⟩,aB.app,bk⟩
theorem Hj:Go.Ab.As P 174=some (true,22):=by rfl
theorem LM:hX P 22=some bq:=by rfl
theorem Ex(h:aj H ((((S++F)++hH)++bX)++N)):aj H (((S++N)++F)++hH):=
 afN (h.sub (bX:=((S++F)++hH)++N) (List.Sublist.append_right (sublist_append_left _ _) N))
theorem cl.cut(h:cl ak):cl (iI ak a ef):=by unfold iI;split;simp[cl];exact fun x al=>h x (mem_of_mem_drop (mem_of_mem_take al))
theorem azj(h:∀g∈bj,g.v<256):(jX.next ⟨[],bj,0⟩).1.v<256/\∀g∈(jX.next ⟨[],bj,0⟩).2,g.v<256:=by grind[jX.next]
theorem azk(n:jX):n.next=jX.next ⟨[],n.bj,0⟩:=rfl
theorem LO:(iI ak a ef).length<=ak.length:=by
 unfold iI
 grind
theorem e8.set{i:Nat}{y:Int}(h:e8 v ak ao)(aq:i<ak.length):e8 v (ak.set i y) (ao.set i (.int .u8 y)):=by
 rcases h with⟨rfl,rfl,rfl⟩|⟨p,h1,h2,aB,bk⟩
 simp at aq;refine .inr ⟨p,by simp_all,?_,by simp_all,?_⟩
 simp_all[take_set]
 rw[all_eq_true];intro x al;rcases mem_or_eq_of_mem_set al with h|rfl
 simp_all
 rfl
theorem e8.ai(h:e8 v ak ao)(al:ak≠[]):∃p c,v=aC p 0 ak.length c/\(c=2\/c=3)/\bB v ao=[(p,⟨ao,true⟩)]:=by
 rcases h with⟨_,rfl,_⟩|⟨p,rfl|⟨rfl,_⟩,_⟩
 simp_all
 exact⟨p,2,rfl,.inl rfl,rfl⟩;exact⟨p,3,rfl,.inr rfl,rfl⟩
theorem e8.at(h:e8 v ak ao){i:Nat}(aq:i<ak.length):ao[i]?=some (.int .u8 ak[i]):=by
 rcases h with⟨_,rfl,_⟩|⟨p,_,h2,_⟩
 simp at aq;have:=congrArg (·[i]?) h2
 grind
theorem afQ(h:gZ S fv bj):(fQ cd fv dF).all fE=true:=by show(fE (vx cd)&&(fE fv&&(fE (int dF)&&true)))=true;rw[h.q9];rfl
theorem azl(aQ:pU S cd fv bI)(aE:cz.length<=1000000)(aD:bI.dF<=1000000)(hO:aj H ((S++F)++[(bU,⟨fQ cd fv bI.dF,true⟩)]))
  (ag:∀aa aH iU X,b3 (S++X) aH (bI.nV cz a ef).1.1->cl (bI.nV cz a ef).1.1->(bI.nV cz a ef).1.1.length<=10000->((bI.nV cz a ef).1.1≠[]->qo (S++X) aH)->pU (S++X) cd iU (bI.nV cz a ef).2->
   aj aa (((S++X)++F)++[(bU,⟨fQ cd iU (bI.nV cz a ef).2.dF,true⟩)])->ab (.tuple [aH,int (bI.nV cz a ef).1.2].toArray) aa):az P 187 [ai bU 0,bl cz,int a,int ef] H ab:=by
 apply aqR;unfold aaF;obtain⟨⟨T,bd,SD⟩,Ey,wG⟩:=aQ;refine aU (aP hO ((S++F).length+0) (aA rfl) (v:=vx cd) rfl (Lp aE (⟨gu hO ((S++F).length+0) (aA rfl) hO ((S++F).length+0) (aA rfl) (afQ Ey),?_⟩)));unfold jX.nV at ag;rcases SD.SC (hs cz)with⟨bb,bt⟩|⟨all,av,bb,bt,afR,Hk,kD⟩
 rw[bb]at ag;exact JP hO bd Hj LM bt (ah jT (ah jU (ah jF (fg rfl (ag H bq fv [] .nil (by simp[cl]) (by simp) (fun h=>absurd rfl h) (by rw[append_nil];exact⟨⟨T,bd,SD⟩,Ey,wG⟩) (by rw[append_nil];exact hO))))));rw[bb]at ag;simp only[azk bI]at ag;refine JP hO bd Hj LM bt (ah jT (ah jU (ah jF (et rfl ?_))));show ad _ _;refine aU (aP hO ((S++F).length+0) (aA rfl) (v:=int bI.dF) rfl (ah (v:=int ((bI.dF+1:Nat):Int)) (by grind[jg]) (aU (tv hO rfl (show 2<3 by omega) (bu:=fQ cd fv (bI.dF+1)) rfl ?_))));intro H hO;refine azh Ey hO ?_;obtain⟨jh,jG⟩:=azj wG;generalize hf:(jX.next ⟨[],bI.bj,0⟩).1=f at ag jh;generalize U:(jX.next ⟨[],bI.bj,0⟩).2=r at ag jG;intro H iU mo hO;have B9:∀X,pU (S++X) cd iU ⟨bI.off,r,bI.dF+1⟩:=fun X=>pU.app ⟨⟨T,bd,SD⟩,mo,jG⟩
 rw[LL];refine c4 hO ?_;intro LP H hO;refine e7 hO (_+0) (aA rfl) rfl rfl rfl ?_;intro H hO
 replace hO:=hO.cb
 replace hO:aj H (((S++F)++[(bU,⟨fQ cd iU (bI.dF+1),true⟩)])++[(LP,⟨h9 f,true⟩)]):=hO
 have sP:∀ {bX},((((S++F)++[(bU,(⟨fQ cd iU (bI.dF+1),true⟩:ay))])++[(LP,(⟨h9 f,true⟩:ay))])++bX)[((S++F)++[(bU,(⟨fQ cd iU (bI.dF+1),true⟩:ay))]).length+0]?=some (LP,⟨h9 f,true⟩):=aK (aA rfl);refine afP hO (afR.app.app.app) (by omega) ?_;have BQ:cl (iI all a ef):=Hk.cut;have p8:(iI all a ef).length<=10000:=Nat.le_trans LO kD;have nP:=hO;intro H dS kY hO mF;refine ah b0 (aP hO _ sP (v:=int f.jr) rfl (ah fl ?_));unfold oD at ag;refine bz (fun h=>?_) (fun h=>?_);rw[if_pos h]at ag;exact ag H bq iU [] .nil (by simp[cl]) (by simp) (fun h=>absurd rfl h) (B9 []) (by rw[append_nil];exact hO.left.left);rw[if_neg h]at ag;refine ah fl (bz (fun h=>?_) (fun h=>?_));rw[if_pos h]at ag;refine bV mF.bP (ah kQ ?_);unfold Ew at ag;by_cases al:iI all a ef=[];rw[if_pos al]at ag;exact nr (by grind) (ag H dS iU _ (mF.hF.app') BQ p8 (fun h=>absurd al h) (B9 _) (Ex hO));rw[if_neg al]at ag;have aN:0<(iI all a ef).length:=length_pos_iff.2 al;refine rK (by omega) ?_;generalize azm:iI all a ef=cx at*;obtain⟨p,c,rfl,AV,Ez⟩:=e8.ai mF al;refine ah b0 (aP hO _ sP (v:=int f.kb) rfl (bV zh (bV mF.bP ?_)));obtain⟨cm,wj⟩:=Int.eq_ofNat_of_zero_le (show 0<=max f.kb 0 by omega);rw[wj]at ag⊢;simp only[Int.ofNat_eq_natCast,Int.toNat_natCast]at ag⊢;have dy:cm%cx.length<cx.length:=mod_lt _ aN;refine ah (v:=int ((cm%cx.length:Nat):Int)) (uA aN) (ah (h4 (by omega) (by omega)) ?_)
 rw[Ez]at hO;have mm:=e8.at mF dy;have nj:=BQ _ (getElem_mem dy);have LQ:cx[cm%cx.length]=((cx[cm%cx.length].toNat:Nat):Int):=by omega
 refine aP hO (_+0) (aA rfl) (v:=bQ .u8 (cx[cm%cx.length].toNat)) (by show kY[0+((cm%cx.length:Nat):Int).toNat*1]?=some (Value.int .u8 ((cx[cm%cx.length].toNat:Nat):Int));rw[<- LQ,<- mm,Int.toNat_natCast,Nat.zero_add,Nat.mul_one]) ?_;refine ah b0 (aP hO _ sP (v:=bQ .u8 f.v) rfl (ah (mV rfl (show _<256 by omega) (show _<256 from jh)) (ah (h4 (by omega) (by omega)) ?_)));rw[getD_eq_getElem?_getD,List.getElem?_eq_getElem dy,Option.getD_some]at ag;have aw:=e8.set mF (y:=((cx[cm%cx.length].toNat ^^^ f.v:Nat):Int)) dy;have OE:cx[cm%cx.length].toNat ^^^ f.v<256:=xor_lt_two_pow (n:=8) (by omega) jh;have azn:cm%cx.length<kY.length:=(List.getElem?_eq_some_iff.1 mm).1;refine fm hO (_+0) (aA rfl) rfl (show 0+((cm%cx.length:Nat):Int).toNat*1<kY.length by omega) (bu:=kY.set (cm%cx.length) (.int .u8 ((cx[cm%cx.length].toNat ^^^ f.v:Nat):Int))) (by rw[Int.toNat_natCast,Nat.zero_add,Nat.mul_one]) ?_;intro aa im;rw[Go.Ab.cb]at im;have de:aj aa ((((S++F)++[(bU,⟨fQ cd iU (bI.dF+1),true⟩)])++[(LP,⟨h9 f,true⟩)])++bB (aC p 0 cx.length c) (kY.set (cm%cx.length) (.int .u8 ((cx[cm%cx.length].toNat ^^^ f.v:Nat):Int)))):=im;exact ag aa _ iU _ (aw.hF.app') (by
  intro x al;rcases mem_or_eq_of_mem_set al with h|rfl
  grind
  omega) (by grind) (fun _=>(e8.wX aw).app') (B9 _) (Ex de)
 rw[if_neg h]at ag;refine ah fl (bz (fun h=>?_) (fun h=>?_));rw[if_pos h]at ag;refine ah b0 (aP hO _ sP (v:=int f.kb) rfl (bV mF.bP (bV vr (bV zh ?_))));obtain⟨t,ht⟩:=Int.eq_ofNat_of_zero_le (show 0<=max 0 (min f.kb ((iI all a ef).length:Int)) by omega);rw[ht]at ag⊢;simp only[Int.ofNat_eq_natCast,Int.toNat_natCast]at ag⊢;obtain⟨dD,bt,jR⟩:=wM mF.hF (n:=t) (by omega);exact ah bt (ag H dD iU _ ((jR _ mF.hF).app') (fun x al=>BQ x (mem_of_mem_take al)) (by rw[length_take];omega) (fun _=>((e8.wX mF).slice bt).app') (B9 _) (Ex hO));rw[if_neg h]at ag;refine ah fl (bz (fun h=>?_) (fun h=>?_));rw[if_pos h]at ag;refine ah b0 (aP hO _ sP (v:=int f.kb) rfl (afP hO.left (afR.app.app.app) (by omega) ?_));intro cB dD kR de LR;exact ag cB dD iU _ (LR.hF.app') Hk.cut (Nat.le_trans LO kD) (fun _=>(e8.wX LR).app') (B9 _) (Ex de);rw[if_neg h]at ag;exact ag H dS iU _ (mF.hF.app') BQ p8 (fun _=>(e8.wX mF).app') (B9 _) (Ex hO)
end J
