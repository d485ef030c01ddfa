/- texts of the nf, fh behind the mA -/
import Derived.Test.YtifflnhooaophaaGreatDoorVA
set_option linter.unusedVariables false
set_option linter.unusedSimpArgs false
set_option linter.unusedSectionVars false
set_option maxHeartbeats 1000000
set_option maxRecDepth 100000
open List Nat
namespace J
open Go Go.Ab
namespace V
variable{p:bX}{e:Int}{cw:Bool}{l:dE}{c:eg}{w:bA}{o:List ib}
theorem oA.eB(h:oA l c)(bM:c.eB=[]->o=[]):oA l {c with eB:=o}:=by
 cases h with
 | head h1 h2 h3 aG a6 bq bU=>exact .head h1 h2 (bM h3) aG a6 bq bU
 | mZ bs h1 h2 h3 aG a6 bq bU=>exact .mZ bs h1 h2 (bM h3) aG a6 bq bU
 | iX h1 h2 h3 aG a6 bq bU=>exact .iX h1 h2 (bM h3) aG a6 bq bU
 | good g h1 h2 aG a6 bq bU c2=>exact .good g h1 h2 aG a6 bq bU c2
 | hF g xs w h1 h2 h3 aG a6 bq bU=>exact .hF (c:={c with eB:=o}) g xs w h1 h2 h3 aG a6 bq bU
 | on g xs w k D h1 h2 h3 aG a6 bq bU c2 fe gH i6=>exact .on (c:={c with eB:=o}) g xs w k D h1 h2 h3 aG a6 bq bU c2 fe gH i6
def aEI(c:eg)(w:bA):Prop:=c.cw=true->.dy∈c.eB\/w.cC=3
structure qi (p:bX):Prop where
 vY:oA p.l p.c
 dO:p.l.bj=0
 uz:p.c.bj=0
 pz:p.w.bj=0
 cC:p.w.cC≠4
 bz:0<p.c.bz
 fQ:0<p.c.fQ
 Gw:aEI p.c p.w
theorem qi.Gn(h:qi p)(aD:(hj p.c.bz p.l p.c.dB p.c.cA p.aR).1=false)(aB:p.c.step.1=false)(aM:p.rw.1=false):False:=by
 have al:p.rw=({p.w with q:=p.c.eB}:bA).step:=rfl;have Gc:p.c.eB=[]/\p.w.cC≠3:=by
  rw[al]at aM;unfold bA.step at aM;have h1:¬(({p.w with q:=p.c.eB}:bA).bj≠0\/({p.w with q:=p.c.eB}:bA).cC=4):=by rintro(aT|aT);exact aT h.pz;exact h.cC aT
  grind
 rcases h.vY.Gn (aR:=p.aR) h.bz h.dO h.uz with q|q|q|q
 simp_all
 simp_all
 rw[Gc.1]at q;have q:(0:Nat)=p.c.fQ:=q;have:=h.fQ;omega;rcases h.Gw q with aT|aT
 simp_all
 omega
theorem ajE{x:List Int}{xs:List (List Int)}(h1:¬(w.bj≠0\/w.cC=4))(h2:w.cC≠1)(h3:w.cC≠3)(ao:w.fy=x::xs):w.step=(true,w.fill x xs):=by simp_all[bA.step]
theorem ajF{aR:ib}{q:List ib}(h1:¬(w.bj≠0\/w.cC=4))(h2:w.cC≠1)(h3:w.cC≠3)(ao:w.fy=[])(bY:w.q=aR::q):w.step=(true,({w with q:=q}:bA).iJ aR):=by simp_all[bA.step]
theorem aEJ{aR:ib}:(w.iJ aR).q=w.q:=by
 unfold bA.iJ
 grind[bA.xq,bA.body]
theorem aEK(h:.dy∈w.q\/w.cC=3)(he:w.step.2.bj=0)(aG:w.step.2.cC≠4):.dy∈w.step.2.q\/w.step.2.cC=3:=by
 by_cases h1:w.bj≠0\/w.cC=4
 simp_all[bA.step]
 by_cases h2:w.cC=1;have e:w.step=(true,w.kq):=by simp_all[bA.step]
 rw[e];rcases h with aT|aT
 left;show ib.dy∈w.kq.q;unfold bA.kq;split<;>exact aT;omega;by_cases h3:w.cC=3;have e:w.step=(true,w.kF):=by simp_all[bA.step]
 rw[e]at he aG;exfalso;have he:w.kF.bj=0:=he;have aG:w.kF.cC≠4:=aG;unfold bA.kF at he aG
 grind
 have hf:ib.dy∈w.q:=by simp_all
 by_cases nR:w.fy=[];cases bY:w.q with
 | nil=>simp_all
 | cons aR q=>
  have e:=ajF h1 h2 h3 nR bY;rw[e]at he⊢;rw[bY]at hf;rcases mem_cons.1 hf with aU|aT
  right;subst aU;have he:(({w with q:=q}:bA).iJ .dy).bj=0:=he;show(({w with q:=q}:bA).iJ .dy).cC=3;by_cases aJ:w.cC=0
  simp_all[bA.iJ]
  by_cases a6:w.ep<w.aS.aN.length
  simp_all[bA.iJ]
  simp_all[bA.iJ,if_neg]
  simp_all[aEJ]
 obtain⟨x,xs,ao⟩:=exists_cons_of_ne_nil nR;rw[ajE h1 h2 h3 ao];left;show ib.dy∈(w.fill x xs).q;unfold bA.fill;split<;>exact hf
end V
end J
namespace J
open Go Go.Ab
namespace V
variable{cw:Bool}{c:eg}
theorem ajG:c.step.2.bz=c.bz:=by
 unfold eg.step;split;rfl;split;split
 grind[eg.lH]
 split;rfl;split;rfl;simp only;split;unfold eg.gS;split<;>rfl;rfl;split;rfl;split;rfl;simp only;split;unfold eg.yr;split;rfl;split<;>rfl;rfl
theorem aEL(h:c.cw=false)(aT:c.step.2.cw=true):.dy∈c.step.2.eB:=by
 unfold eg.step at aT⊢;split at aT
 simp_all
 rename_i h1;rw[if_neg h1];split at aT;split at aT;rename_i al _ h2;simp only[h2,if_true];unfold eg.lH at aT⊢
 grind
 exfalso;split at aT
 simp_all
 split at aT
 simp_all
 simp only at aT;split at aT;unfold eg.gS at aT;split at aT<;>(have aT:c.cw=true:=aT;rw[h]at aT;cases aT);have aT:c.cw=true:=aT
 simp_all
 exfalso;split at aT
 simp_all
 split at aT
 simp_all
 simp only at aT;split at aT;unfold eg.yr at aT;split at aT;have aT:c.cw=true:=aT
 simp_all
 split at aT<;>(have aT:c.cw=true:=aT;rw[h]at aT;cases aT);have aT:c.cw=true:=aT
 simp_all
end V
end J
namespace J
open Go Go.Ab
namespace V
variable{p:bX}{ct e:Int}{i:Nat}{cw n7:Bool}{l:dE}{c:eg}{w:bA}
theorem aEM(h:w.q=[]):w.step.2.q=[]:=by
 unfold bA.step;split;exact h;split;show w.kq.q=[];unfold bA.kq;split<;>exact h;split;show w.kF.q=[];unfold bA.kF;split;exact h;split<;>exact h;split;rename_i x xs _;show(w.fill x xs).q=[];unfold bA.fill;split<;>exact h
 simp_all
theorem Og{d:tM}{st fg:Int}{aR:gU}(h:qi p):qi {p with d:=d,st:=st,fg:=fg,aR:=aR}:=⟨h.vY,h.dO,h.uz,h.pz,h.cC,h.bz,h.fQ,h.Gw⟩
theorem Gx(h1:(p.hG i n7 e cw).2.st=1)(aJ:p.st=1):e=0/\cw=false/\(p.hG i n7 e cw).2=(if n7 then {p with d:=p.d.sd i}else p):=by
 unfold bX.hG at h1⊢;simp only at h1⊢;by_cases he:e≠0;rw[if_pos he]at h1;have h1:(3:Int)=1:=h1;omega;rw[if_neg he]at h1⊢;cases cw with
 | true=>have h1:(2:Int)=1:=h1;omega
 | false=>simp_all
theorem qi.hG(h:qi p):qi (if n7 then {p with d:=p.d.sd i}else p:bX):=by split;exact Og h (d:=p.d.sd i) (st:=p.st) (fg:=p.fg) (aR:=p.aR);exact h
theorem qi.step(h:p.st=1->qi p):(p.step ct).2.st=1->qi (p.step ct).2:=by
 unfold bX.step;split;exact h;rename_i aU;have h1:p.st=1:=by omega
 have hL:=h h1;split;unfold bX.uR;split;intro aT;have aT:(3:Int)=1:=aT;omega;exact h;split;rw[yv];intro aT;obtain⟨eX,_,bt⟩:=Gx (p:=p.rm) aT h1;rw[bt];refine qi.hG ?_;generalize U:hj p.c.bz p.l p.c.dB p.c.cA p.aR=r;obtain⟨b,aA,bw,cA,ox⟩:=r;have hm:p.rm={p with l:=aA,c:={p.c with dB:=bw,cA:=cA},aR:=ox}:=by simp_all[bX.rm]
 rw[hm]at eX⊢;exact⟨hL.vY.UZ U eX,eX,hL.uz,hL.pz,hL.cC,hL.bz,hL.fQ,hL.Gw⟩;split;rw[zS];intro aT;obtain⟨eX,_,bt⟩:=Gx (p:=p.yw) aT h1;rw[bt];refine qi.hG ?_;have eX:p.c.step.2.bj=0:=eX;refine⟨hL.vY.looks eX,hL.dO,eX,hL.pz,hL.cC,?_,?_,?_⟩;show 0<p.c.step.2.bz;rw[ajG];exact hL.bz;show 0<p.c.step.2.fQ;rw[ai5];exact hL.fQ;intro aO;have aO:p.c.step.2.cw=true:=aO;show .dy∈p.c.step.2.eB\/p.w.cC=3;have key:p.c.cw=true\/p.c.cw=false:=by simp_all
 rcases key with k|k
 have e:p.c.step=(false,p.c):=by simp_all[eg.step]
 rw[e];exact hL.Gw k
 simp_all[aEL]
 split;rw[zT];intro aT;obtain⟨eX,a7,bt⟩:=Gx (p:=p.xA) aT h1;rw[bt];refine qi.hG ?_;have eX:p.rw.2.bj=0:=eX;have a7:p.rw.2.cC≠4:=of_decide_eq_false a7;refine⟨?_,hL.dO,hL.uz,eX,a7,hL.bz,hL.fQ,?_⟩;refine oA.eB hL.vY ?_;intro bM;show p.rw.2.q=[];exact aEM (w:={p.w with q:=p.c.eB}) bM;intro aO;exact aEK (w:={p.w with q:=p.c.eB}) (hL.Gw aO) eX a7;exact h
end V
end J
namespace J
open Go Go.Ab
namespace V
variable{l aA:dE}{c:eg}{aR ox:gU}{n:Nat}{bw:List (Int×List Int)}{cA:List ib}{b:Bool}{xs:List Int}{w k:Nat}{m:da}
def potL(n:Nat)(l:dE)(c:eg):Nat:=match l.du,c.al with
 | none,none=>if c.cA=[]then(if l.ee=-1 then 132 else 131)+l.left*(2*n+3)else 1+(if l.left=0 then 0 else 132+(l.left-1)*(2*n+3))
 | none,some _=>130+l.left*(2*n+3)
 | some _,none=>0
 | some (_,m),some (_,w)=>if c.cA=[]then(m.aN.length-(if l.ee=-2 then m.aN.length else l.ee.toNat))+(c.dB.length-((if l.ee=-2 then m.aN.length else l.ee.toNat)-w))+(m.aN.length-w)+(if c.cw then 0 else 1)+l.left*(2*n+3)
   else 1+(if l.left=0 then c.dB.length else 2*(m.aN.length-w)+c.dB.length+1+(l.left-1)*(2*n+3))
theorem left_eq(h:l.left≠0):l.left*(2*n+3)=(l.left-1)*(2*n+3)+(2*n+3):=by
 obtain⟨j,bm⟩:∃j,l.left=j+1:=⟨l.left-1,by omega⟩
 simp_all[Nat.add_mul]
theorem want_k(h:eG m)(ah:k<=m.aN.length):(if mz m k=-2 then m.aN.length else(mz m k).toNat)=k:=by simp_all[mz]
theorem ain_len{D:List Int}(h:c.dB.map (·.1)=D++sY w k):c.dB.length=D.length+(k-w):=by
 have:=congrArg List.length h
 grind[Jg]
theorem mright64(h:eG m):m.aN.length<=64:=h.2.2.2.2.2.2.2.2.2
theorem pfetch(h:oA l c)(aU:c.dB.length<=n)(U:hj n l c.dB c.cA aR=(b,aA,bw,cA,ox))(he:aA.bj=0):
  (b=false/\aA=l/\bw=c.dB/\cA=c.cA/\ox=aR)\/(b=true/\potL n aA {c with dB:=bw,cA:=cA}<potL n l c/\bw.length<=n):=by
 unfold hj at U;split at U
 simp_all
 rename_i x5;split at U;rename_i s r kl;cases U;refine .inr ⟨rfl,?_,aU⟩;cases h with
 | head h1 h2 h3 aG a6 bq bU=>simp_all
 | mZ bs h1 h2 h3 aG a6 bq bU=>simp_all
 | iX h1 h2 h3 aG a6 bq bU=>
  have hbk0:=kl;rw[bU]at kl;cases kl;have zX:l.p1 (-1)=true:=by simp_all[dE.p1]
  unfold dE.follow at he⊢;simp only[zX]at he⊢;rw[if_neg (by decide)]at he⊢;split at he;cases he
  simp_all[potL]
 | good g h1 h2 aG a6 bq bU c2=>
  have hbk0:=kl;rw[bU]at kl;cases kl;unfold dE.follow at he⊢;simp only at he⊢;split at he;cases he;rename_i aD;rw[if_neg aD]
  grind[mright64,potL]
 | hF g xs w h1 h2 h3 aG a6 bq bU=>
  have hbk0:=kl;rw[bq]at kl;cases kl;have zX:l.p1 w=true:=by simp_all[dE.p1]
  unfold dE.follow at he⊢;simp only[zX]at he⊢;rw[if_neg (by decide)]at he⊢;split at he;cases he;rename_i aD;rw[if_neg aD]
  grind[potL]
 | on g xs w k D h1 h2 h3 aG a6 bq bU c2 fe gH i6=>simp_all
 rename_i kl;split at U
 simp_all
 rename_i aM;rw[not_or]at aM;generalize hf:aR.mx l.ff l.jA.1 l.jA.2=r at U;obtain⟨⟨zQ,NF⟩,fn⟩:=r;simp only at U;split at U;cases U;refine .inr ⟨rfl,?_,by grind⟩;cases h with
 | head h1 h2 h3 aG a6 bq bU=>simp_all[dE.on,potL]
 | mZ bs h1 h2 h3 aG a6 bq bU=>omega
 | iX h1 h2 h3 aG a6 bq bU=>omega
 | good g h1 h2 aG a6 bq bU c2=>omega
 | hF g xs w h1 h2 h3 aG a6 bq bU=>simp_all
 | on g xs w k D h1 h2 h3 aG a6 bq bU c2 fe gH i6=>
  have l1:k<c.aS.aN.length:=by have:=aM.1;rw[bU]at this;unfold mz at this;omega
  have NR:l.ee=k:=by simp_all[mz]
  have e:l.on={l with ee:=mz c.aS (k+1)}:=by
   unfold dE.on mz
   grind
  have lo:=ain_len c2;have bP:=want_k h2 (k:=k+1) (by omega);have q2:=want_k h2 a6;rw[<- bU]at q2;rw[e];unfold potL
  grind
 split at U;cases U;unfold dE.try at he⊢;split at he;cases he;rename_i aD;rw[if_neg aD];have j7:=left_eq (n:=n) aD;refine .inr ⟨rfl,?_,aU⟩;cases h with
 | head h1 h2 h3 aG a6 bq bU=>simp_all[potL]
 | mZ bs h1 h2 h3 aG a6 bq bU=>omega
 | iX h1 h2 h3 aG a6 bq bU=>omega
 | good g h1 h2 aG a6 bq bU c2=>omega
 | hF g xs w h1 h2 h3 aG a6 bq bU=>simp_all
 | on g xs w k D h1 h2 h3 aG a6 bq bU c2 fe gH i6=>simp_all[potL]
 grind
theorem plooks(h:oA l c)(he:c.step.2.bj=0)(aU:c.dB.length<=n):
  (c.step.1=false/\c.step.2=c)\/(potL n l c.step.2<potL n l c/\c.step.2.dB.length<=n):=by
 unfold eg.step at he⊢;split at he
 simp_all
 rename_i aJ;rw[if_neg aJ];rw[not_or]at aJ;have xb:c.cw=false:=by simp_all
 cases h with
 | head h1 h2 h3 aG a6 bq bU=>simp_all
 | iX h1 h2 h3 aG a6 bq bU=>simp_all
 | mZ bs h1 h2 h3 aG a6 bq bU=>
  simp only[h2,bq]at he⊢;split at he
  simp_all
  rename_i hf;rw[if_neg hf];simp only[if_true]at he⊢;rw[U0]at he⊢;right;by_cases ak:(e4 c.key bs).2.2≠0;rw[if_pos ak];refine⟨?_,zero_le _⟩
  grind[potL,left_eq]
  rw[if_neg ak]at he⊢;by_cases bn:nV (e4 c.key bs).1 c.t≠0
  simp_all
  simp_all[potL]
 | good g h1 h2 aG a6 bq bU c2=>
  have bJ:=BN c2
  grind
 | hF g xs w h1 h2 h3 aG a6 bq bU=>
  simp only[h3]at he⊢;rw[if_neg (by omega)]at he⊢;cases hain:c.dB with
  | nil=>simp_all
  | cons p r=>
   rw[hain]at he aU;simp only at he⊢;split at he
   simp_all
   rename_i hf;rw[if_neg hf];have uj:p.1≠w:=bU p (by simp_all);simp only[if_neg uj,eg.oo]
   grind[potL]
 | on g xs w k D h1 h2 h3 aG a6 bq bU c2 fe gH i6=>
  have q2:=want_k h2 a6;rw[<- bU]at q2;have lo:=ain_len c2;simp only[h3]at he⊢;by_cases aM:w=c.aS.aN.length;rw[if_pos aM]at he⊢;unfold eg.lH at he⊢;split at he
  simp_all
  rename_i hf;rw[if_neg hf];split at he
  simp_all[potL]
  grind
  rw[if_neg aM]at he⊢;cases hain:c.dB with
  | nil=>simp_all
  | cons p r=>
   rw[hain]at he c2 aU lo;rw[length_cons]at aU lo;simp only at he⊢;split at he
   simp_all
   rename_i hf;rw[if_neg hf];right;simp only at he⊢;rw[map_cons]at c2;cases D with
   | cons d D=>
    injection c2 with a7 bt
    have uj:p.1≠w:=by simp_all
    simp only[if_neg uj,eg.oo];rw[length_cons]at lo;refine⟨?_,by omega⟩;unfold potL
    grind
   | nil=>
    have Jh:w<k:=by grind
    rw[nil_append,UY Jh]at c2;injection c2 with a7 bt
    rw[if_pos a7]at he⊢;rw[U1]at he⊢;have lo:r.length+1=k-w:=by simp_all
    by_cases al:((p.2.length:Nat):Int)=(gy c.aS w).2/\gC p.2=c.aS.aN.getD w [];rw[if_pos al];refine⟨?_,by grind⟩;unfold potL
    grind
    rw[if_neg al];refine⟨?_,by grind⟩;unfold potL;simp only[h1,h3,bq,hain,length_cons,if_true]
    grind[left_eq]
end V
end J
namespace J
open Go Go.Ab
namespace V
variable{w:bA}{n y:Nat}{m:br}{d:bK}{part bc a b:Int}
theorem cells_erase(h:(d.eF a).2=0):(d.eF a).1.cells=(d.cells.set a.toNat {d.cell a with ji:=(d.cell a).ji+1}).set a.toNat {(d.step.iE a {d.cell a with ji:=(d.cell a).ji+1}).cell a with eR:=jG}:=by unfold bK.eF at h⊢;split at h;cases h;split at h;cases h;split at h;cases h;split at h;cases h;rename_i h1 h2 h3 aG;rw[if_neg h1,if_neg h2,if_neg h3,if_neg aG];rfl
theorem has_erase(h:(d.eF a).2=0):d.hC a:=by unfold bK.eF at h;split at h;cases h;rename_i h1;exact Classical.not_not.1 h1
theorem read_erase(h:(d.eF a).2=0):(d.eF a).1.fU a=(jG,0):=by
 have bn:=has_erase h
 simp_all[bK.fU,cells_erase,bK.hC,bK.cell]
theorem read_other(Us:a.toNat≠b.toNat):((d.eF a).1.fU b)=d.fU b:=by
 by_cases h:(d.eF a).2=0
 simp_all[bK.fU,cells_erase,bK.hC,bK.cell]
 unfold bK.eF at h⊢;split;rfl;split;rfl;split;rfl;split;rfl
 simp_all
def dirtC(w:bA):Nat:=(List.range w.size).countP fun y=>decide (mW w y)
theorem dirtC_le:dirtC w<=w.size:=by have:=countP_le_length (p:=fun y=>decide (mW w y)) (l:=List.range w.size);rw[length_range]at this;exact this
theorem count_lt{p q:Nat->Bool}:∀ {l:List Nat},(∀z∈l,q z=true->p z=true)->y∈l->p y=true->q y=false->l.countP q<l.countP p
 | [],_,h,_,_=>by cases h
 | z::l,h,ba,bJ,bY=>by
  have j7:l.countP q<=l.countP p:=countP_mono_left fun z dU=>h z (mem_cons_of_mem _ dU)
  rw[countP_cons,countP_cons];rcases mem_cons.1 ba with rfl|ba
  grind
  have:=count_lt (fun z dU=>h z (mem_cons_of_mem _ dU)) ba bJ bY
  grind
theorem I0:∀ {k y z:Nat},w.sb k y=some z->mW w z/\y<=z/\z<y+k
 | 0,y,z,h=>by cases h
 | k+1,y,z,h=>by
  unfold bA.sb at h;split at h
  simp_all
  obtain⟨h1,h2,h3⟩:=I0 h
  grind
structure WB (n:Nat) (w:bA):Prop where
 cT:w.size=n
 aC:w.s.part w.s.cQ=w.s.part w.cQ
 fy:w.cC=0->w.fy=[]
def wpot(n:Nat)(w:bA):Nat:=if w.cC=0 then 2*n+68 else if w.cC=1 then dirtC w+w.aS.aN.length+n+3 else if w.cC=3 then 1 else(w.aS.aN.length-w.ep)+(n-w.wr)+2
theorem note_sp{o:Op}{e:Int}:(m.oS o e).iA=m.iA/\(m.oS o e).d=m.d:=by grind[br.oS]
theorem size_sp{k3:br}(h:k3.iA=m.iA):k3.size part=m.size part:=by obtain⟨a,b,c,d⟩:=m;obtain⟨cH,di,bV,eM⟩:=k3;have h:di=b:=h;subst h;rfl
theorem place_sp{k3:br}(h:k3.iA=m.iA):k3.gj part bc=m.gj part bc:=by obtain⟨a,b,c,d⟩:=m;obtain⟨cH,di,bV,eM⟩:=k3;have h:di=b:=h;subst h;rfl
theorem erase_sp:(m.eF part bc).1.iA=m.iA:=by grind[br.eF,note_sp]
theorem prog_sp{s:List Int}:(m.fE part bc s).1.iA=m.iA:=by grind[br.fE,note_sp]
theorem erase_d(h:(m.eF part bc).2=0):(m.gj part bc).2=0/\(m.eF part bc).1.d=(m.d.eF (m.gj part bc).1).1/\(m.d.eF (m.gj part bc).1).2=0:=by
 unfold br.eF at h⊢;by_cases bJ:(m.gj part bc).2≠0
 simp_all
 simp_all[note_sp]
theorem place_ne{z:Int}(h1:(m.gj part bc).2=0)(h2:(m.gj part z).2=0)(dU:bc≠z):(m.gj part bc).1.toNat≠(m.gj part z).1.toNat:=by
 unfold br.gj at*
 grind
theorem place_lt(h:(m.gj part bc).2=0):bc<m.size part:=by
 unfold br.gj at h;split at h;cases h;split at h;cases h
 simp_all[br.size]
theorem as_e{s:fF}{t:Nat}{f:br->br×Int}(h:(s.as m t f).2=0):(s.as m t f).1={(f {m with ct:=s.jy}).1 with ct:=m.ct}/\(f {m with ct:=s.jy}).2=0:=by
 unfold fF.as at h⊢
 grind
theorem wipe_lt(ak:WB n w)(h:w.sb w.size 0=some y)(he:(w.ri y).bj=0):(w.ri y).size=w.size/\dirtC (w.ri y)<dirtC w:=by
 obtain⟨h1,_,h3⟩:=I0 h;unfold bA.ri bA.put at he⊢;obtain⟨a7,bt⟩:=as_e he;obtain⟨d1,d2,d3⟩:=erase_d bt;have rV:(w.s.as w.m w.cy (·.eF (w.s.part w.s.cQ) y)).1.iA=w.m.iA:=by grind[erase_sp]
 have fc:({w with m:=(w.s.as w.m w.cy (·.eF (w.s.part w.s.cQ) y)).1,bj:=(w.s.as w.m w.cy (·.eF (w.s.part w.s.cQ) y)).2}:bA).size=w.size:=by grind[bA.size,size_sp]
 refine⟨fc,?_⟩;have mj:∀z:Nat,(w.s.as w.m w.cy (·.eF (w.s.part w.s.cQ) y)).1.fU (w.s.part w.s.cQ) z=if z=y then(jG,0)else w.m.fU (w.s.part w.s.cQ) z:=by
  intro z;have bJ:(w.s.as w.m w.cy (·.eF (w.s.part w.s.cQ) y)).1.gj (w.s.part w.s.cQ) z=w.m.gj (w.s.part w.s.cQ) z:=place_sp rV;have aO:(w.s.as w.m w.cy (·.eF (w.s.part w.s.cQ) y)).1.d=(w.m.d.eF (w.m.gj (w.s.part w.s.cQ) y).1).1:=by rw[a7];exact d2
  unfold br.fU;rw[bJ,aO];by_cases dU:z=y;subst dU;rw[if_neg (by rw[show(w.m.gj (w.s.part w.s.cQ) (z:Int)).2=0 from d1];simp),if_pos rfl];exact read_erase d3;rw[if_neg dU];by_cases aiB:(w.m.gj (w.s.part w.s.cQ) (z:Int)).2=0;rw[if_neg (by omega),if_neg (by omega)];exact read_other (place_ne d1 aiB (by omega))
  simp_all
 unfold dirtC;rw[fc];have hdz:∀z:Nat,mW ({w with m:=(w.s.as w.m w.cy (·.eF (w.s.part w.s.cQ) y)).1,bj:=(w.s.as w.m w.cy (·.eF (w.s.part w.s.cQ) y)).2}:bA) z->mW w z/\z≠y:=by
  intro z dU;unfold mW fF.fU at dU⊢;rw[show({w with m:=(w.s.as w.m w.cy (·.eF (w.s.part w.s.cQ) y)).1,bj:=(w.s.as w.m w.cy (·.eF (w.s.part w.s.cQ) y)).2}:bA).s=w.s from rfl]at dU;rw[show({w with m:=(w.s.as w.m w.cy (·.eF (w.s.part w.s.cQ) y)).1,bj:=(w.s.as w.m w.cy (·.eF (w.s.part w.s.cQ) y)).2}:bA).cQ=w.cQ from rfl]at dU;rw[<- ak.aC]at dU⊢
  grind
 refine count_lt (y:=y) (fun z _ dU=>?_) (mem_range.2 (by omega)) (by simp_all) ?_
 simp_all
 grind
end V
end J
namespace J
open Go Go.Ab
namespace V
variable{w:bA}{n y:Nat}{m:br}{d:bK}{part bc a b:Int}{x:List Int}{xs:List (List Int)}{p:bX}{ct:Int}{aR:ib}{q:List ib}
theorem prog_place{s:List Int}(h:(m.fE part bc s).2=0):(m.gj part bc).2=0:=by
 unfold br.fE at h
 grind
theorem fill_lt(he:(w.rj x).bj=0):(w.rj x).size=w.size/\w.wr<w.m.size (w.s.part w.s.cQ):=by
 unfold bA.rj bA.put at he⊢;obtain⟨a7,bt⟩:=as_e he;have rV:(w.s.as w.m w.cy (·.fE (w.s.part w.s.cQ) w.wr x)).1.iA=w.m.iA:=by grind[prog_sp]
 refine⟨by grind[bA.size,size_sp],?_⟩;have bJ:(w.m.gj (w.s.part w.s.cQ) (w.wr:Int)).2=0:=prog_place (m:={w.m with ct:=w.s.jy}) bt;have:=place_lt bJ;omega
theorem spanF_out{i:Nat}{m:da}(h:(gy m i).2≠0):i<m.aN.length:=by grind[gy]
theorem pwrite(ak:WB n w)(aU:n<=20)(he:w.step.2.bj=0)(aG:w.step.2.cC≠4):(w.step.1=false/\w.step.2=w)\/(wpot n w.step.2<wpot n w/\WB n w.step.2):=by
 by_cases h1:w.bj≠0\/w.cC=4
 simp_all[bA.step]
 by_cases h2:w.cC=1;have e:w.step=(true,w.kq):=by simp_all[bA.step]
 rw[e]at he aG⊢;right;have he:w.kq.bj=0:=he;show wpot n w.kq<wpot n w/\WB n w.kq;have bJ:wpot n w=dirtC w+w.aS.aN.length+n+3:=by simp_all[wpot]
 rw[bJ];unfold bA.kq at he⊢;split;rename_i y aD;rw[aD]at he;have he:(w.ri y).bj=0:=he;obtain⟨dZ,gd⟩:=wipe_lt ak aD he;refine⟨?_,by rw[dZ];exact ak.cT,ak.aC,fun h=>?_⟩;have:wpot n (w.ri y)=dirtC (w.ri y)+w.aS.aN.length+n+3:=by unfold wpot;rw[show(w.ri y).cC=w.cC from rfl,h2];rfl
 omega;have h:w.cC=0:=h;omega;refine⟨?_,ak.cT,ak.aC,fun h=>?_⟩;show(w.aS.aN.length-w.ep)+(n-w.wr)+2<_;omega
 simp_all
 by_cases h3:w.cC=3;have e:w.step=(true,w.kF):=by simp_all[bA.step]
 rw[e]at he aG;exfalso;have he:w.kF.bj=0:=he;have aG:w.kF.cC≠4:=aG;unfold bA.kF at he aG
 grind
 by_cases nR:w.fy=[];cases bY:w.q with
 | nil=>simp_all[bA.step]
 | cons aR q=>
  have e:=ajF h1 h2 h3 nR bY;rw[e]at he aG⊢;right;have he:(({w with q:=q}:bA).iJ aR).bj=0:=he;show wpot n (({w with q:=q}:bA).iJ aR)<wpot n w/\WB n (({w with q:=q}:bA).iJ aR);by_cases aJ:w.cC=0;have bJ:wpot n w=2*n+68:=by simp_all[wpot]
  rw[bJ];unfold bA.iJ at he⊢;rw[if_pos aJ]at he⊢;cases aR with
  | hF _=>cases he
  | body _ _=>cases he
  | dy=>cases he
  | mN g mf=>
   simp only at he⊢;unfold bA.xq at he⊢;split at he;cases he;rename_i U;split at he;cases he;rename_i dU;rw[if_neg U,if_neg dU];have U:=Classical.not_not.1 U;have:=mright64 U;refine⟨?_,ak.cT,ak.aC,fun h=>?_⟩;have aO:dirtC ({w with q:=q,aS:=mf,cC:=1,bj:=0}:bA)<=n:=by have:=dirtC_le (w:=({w with q:=q,aS:=mf,cC:=1,bj:=0}:bA));have al:({w with q:=q,aS:=mf,cC:=1,bj:=0}:bA).size=n:=ak.cT;omega
   show dirtC ({w with q:=q,aS:=mf,cC:=1,bj:=0}:bA)+mf.aN.length+n+3<_;omega;omega
  have bJ:wpot n w=(w.aS.aN.length-w.ep)+(n-w.wr)+2:=by simp_all[wpot]
  rw[bJ];unfold bA.iJ at he⊢;rw[if_neg aJ]at he⊢;cases aR with
  | hF _=>cases he
  | mN _ _=>cases he
  | body a bs=>
   simp only at he⊢;unfold bA.body at he⊢;split at he;cases he;rename_i ao;rw[if_neg ao];rw[not_or,not_or]at ao;have bn:a=(w.ep:Int):=Classical.not_not.1 ao.1;have aD:=spanF_out (i:=w.ep) (m:=w.aS) (by simp_all);refine⟨?_,ak.cT,ak.aC,fun h=>absurd h aJ⟩;unfold wpot
   grind
  | dy=>simp only at he⊢;split at he;cases he;rename_i ao;rw[if_neg ao];refine⟨?_,ak.cT,ak.aC,fun h=>?_⟩;show 1<_;omega;omega
 obtain⟨x,xs,ao⟩:=exists_cons_of_ne_nil nR;rw[ajE h1 h2 h3 ao]at he⊢;right;have aJ:w.cC≠0:=fun h=>nR (ak.fy h)
 have he:(w.fill x xs).bj=0:=he;show wpot n (w.fill x xs)<wpot n w/\WB n (w.fill x xs);have bJ:wpot n w=(w.aS.aN.length-w.ep)+(n-w.wr)+2:=by simp_all[wpot]
 rw[bJ];unfold bA.fill at he⊢;split;rename_i hf;obtain⟨dZ,gd⟩:=fill_lt hf;have fc:=ak.cT;unfold bA.size at fc;rw[ak.aC]at gd;refine⟨?_,dZ.trans ak.cT,ak.aC,fun h=>absurd h aJ⟩;unfold wpot;rw[show({w.rj x with fy:=xs,wr:=w.wr+1}:bA).cC=w.cC from rfl,if_neg aJ,if_neg h2,if_neg h3];show(w.aS.aN.length-w.ep)+(n-(w.wr+1))+2<_;omega
 simp_all
structure rY (n:Nat) (p:bX):Prop where
 lv:qi p
 oX:p.c.dB.length<=p.c.bz
 pq:WB n p.w
def tot(n:Nat)(p:bX):Nat:=potL p.c.bz p.l p.c+wpot n p.w
theorem rY.hG{i:Nat}{n7:Bool}(h:rY n p):rY n (if n7 then {p with d:=p.d.sd i}else p:bX):=by split;exact⟨Og h.lv (d:=p.d.sd i) (st:=p.st) (fg:=p.fg) (aR:=p.aR),h.oX,h.pq⟩;exact h
theorem tot_did{i:Nat}{n7:Bool}:tot n (if n7 then {p with d:=p.d.sd i}else p:bX)=tot n p:=by split<;>rfl
def gB(p cI:bX):Prop:=∃q,cI={p with w:={p.w with q:=q}}
theorem gB.lv{cI:bX}(h:gB p cI)(ak:rY n p):rY n cI/\tot n cI=tot n p/\cI.st=p.st:=by obtain⟨q,rfl⟩:=h;exact⟨⟨⟨ak.lv.vY,ak.lv.dO,ak.lv.uz,ak.lv.pz,ak.lv.cC,ak.lv.bz,ak.lv.fQ,ak.lv.Gw⟩,ak.oX,ak.pq.cT,ak.pq.aC,ak.pq.fy⟩,rfl,rfl⟩
theorem ld_false{n:Nat}{l:dE}{bw:List (Int×List Int)}{cA:List ib}{aR:gU}(h:(hj n l bw cA aR).1=false):hj n l bw cA aR=(false,l,bw,cA,aR):=by
 unfold hj at h⊢
 grind
theorem ck_false{c:eg}(h:c.step.1=false):c.step=(false,c):=by
 unfold eg.step at h⊢;by_cases h1:c.bj≠0\/c.cw=true
 simp_all
 rw[if_neg h1]at h⊢;cases al:c.al with
 | some v=>
  obtain⟨xs,w⟩:=v;simp only[al]at h⊢;by_cases h2:w=c.aS.aN.length;rw[if_pos h2]at h⊢;unfold eg.lH at h⊢
  grind
  grind
 | none=>grind
theorem wr_false(h:w.step.1=false):w.step=(false,w):=by
 unfold bA.step at h⊢
 grind
theorem fst_0(h:p.st=1):(p.step 0).1=(hj p.c.bz p.l p.c.dB p.c.cA p.aR).1:=by rw[Ji h,yv];rfl
theorem fst_1(h:p.st=1):(p.step 1).1=p.c.step.1:=by rw[NV h,zS];rfl
theorem fst_2(h:p.st=1):(p.step 2).1=p.rw.1:=by rw[NW h,zT];rfl
theorem Aw(h1:p.st=1)(aD:qi p)(hf:(p.step ct).1=false):gB p (p.step ct).2:=by
 by_cases h3:ct=3;subst h3;have e:p.step 3=p.uR:=by simp_all[bX.step]
 rw[e]at hf⊢;unfold bX.uR at hf⊢;split at hf;cases hf;rename_i ak;rw[if_neg ak];exact⟨p.w.q,rfl⟩;by_cases aJ:ct=0;subst aJ;rw[fst_0 h1]at hf;have U:=ld_false hf;have hm:p.rm=p:=by unfold bX.rm;rw[U]
 rw[Ji h1,yv,hm,hf,Gr aD.dO];exact⟨p.w.q,rfl⟩;by_cases qW:ct=1;subst qW;rw[fst_1 h1]at hf;have U:=ck_false hf;have hm:p.yw=p:=by unfold bX.yw;rw[U]
 rw[NV h1,zS,hm,hf,Gr aD.uz];exact⟨p.w.q,rfl⟩;by_cases h2:ct=2;subst h2;rw[fst_2 h1]at hf;have U:p.rw=(false,{p.w with q:=p.c.eB}):=wr_false hf;have hm:p.xA={p with w:={p.w with q:=p.c.eB}}:=by simp_all[bX.xA]
 rw[NW h1,zT,hm,hf];have xr:decide (({p with w:={p.w with q:=p.c.eB}}:bX).w.cC=4)=false:=decide_eq_false aD.cC;rw[xr,Gr aD.pz];exact⟨_,rfl⟩;have e:(p.step ct).2=p:=by simp_all[bX.step]
 rw[e];exact⟨p.w.q,rfl⟩
theorem rY.step(h:rY n p)(aU:n<=20)(h1:p.st=1)(ht:(p.step ct).1=true):(p.step ct).2.st≠1\/(tot n (p.step ct).2<tot n p/\rY n (p.step ct).2):=by
 by_cases al:(p.step ct).2.st≠1;omega;have al:(p.step ct).2.st=1:=Classical.not_not.1 al;have hlv:=qi.step (p:=p) (ct:=ct) (fun _=>h.lv) al;right;by_cases h3:ct=3;exfalso;subst h3;have e:p.step 3=p.uR:=by simp_all[bX.step]
 rw[e]at al ht;unfold bX.uR at al ht;split at al;have al:(3:Int)=1:=al;omega
 simp_all
 by_cases aJ:ct=0;subst aJ;rw[fst_0 h1]at ht;rw[Ji h1,yv]at al hlv⊢;obtain⟨eX,_,bt⟩:=Gx (p:=p.rm) al h1;generalize U:hj p.c.bz p.l p.c.dB p.c.cA p.aR=r at*;obtain⟨b,aA,bw,cA,ox⟩:=r;have hm:p.rm={p with l:=aA,c:={p.c with dB:=bw,cA:=cA},aR:=ox}:=by simp_all[bX.rm]
 rw[hm]at eX bt hlv al⊢;rcases pfetch h.lv.vY h.oX U eX with⟨rfl,_⟩|⟨rfl,dZ,gd⟩
 cases ht;rw[bt]at hlv⊢;refine⟨?_,hlv,?_,?_⟩;rw[tot_did];exact Nat.add_lt_add_right dZ (wpot n p.w)
 simp_all
 split<;>exact h.pq;by_cases qW:ct=1;subst qW;rw[fst_1 h1]at ht;rw[NV h1,zS]at al hlv⊢;obtain⟨eX,_,bt⟩:=Gx (p:=p.yw) al h1;have eX:p.c.step.2.bj=0:=eX;have AA:=ajG (c:=p.c);rcases plooks h.lv.vY eX h.oX with⟨dZ,_⟩|⟨dZ,gd⟩
 simp_all
 rw[bt]at hlv⊢;refine⟨?_,hlv,?_,?_⟩;rw[tot_did];show potL p.c.step.2.bz p.l p.c.step.2+wpot n p.w<tot n p
 simp_all[tot]
 split<;>(show p.c.step.2.dB.length<=p.c.step.2.bz;rw[AA];exact gd);split<;>exact h.pq;by_cases h2:ct=2;subst h2;rw[fst_2 h1]at ht;rw[NW h1,zT]at al hlv⊢;obtain⟨eX,a7,bt⟩:=Gx (p:=p.xA) al h1;have eX:p.rw.2.bj=0:=eX;have a7:p.rw.2.cC≠4:=of_decide_eq_false a7;have hwb:WB n ({p.w with q:=p.c.eB}:bA):=⟨h.pq.cT,h.pq.aC,h.pq.fy⟩;rcases pwrite hwb aU eX a7 with⟨dZ,_⟩|⟨dZ,gd⟩
 have dZ:p.rw.1=false:=dZ
 simp_all
 rw[bt]at hlv⊢;refine⟨?_,hlv,?_,?_⟩;rw[tot_did];show potL p.c.bz p.l {p.c with eB:=p.rw.2.q}+wpot n p.rw.2<tot n p;have dZ:wpot n p.rw.2<wpot n p.w:=dZ
 simp_all[potL,tot]
 split<;>exact h.oX;split<;>exact gd
 simp_all[bX.step]
end V
end J
namespace J
open Go Go.Ab
namespace V
variable{n c4 s:Nat}{p cI:bX}{ct:Int}{cv:ew}
theorem size_12{a:Int}(Fc:cv.lR=n)(bJ:a=1\/a=2):(oy cv).size a=n:=by
 have rV:=UI cv;unfold br.size;have aD:(oy cv).iA.length=3:=by grind
 rw[if_pos (by unfold br.hC;omega)]
 grind[br.r5]
def M0(n:Nat)(iS eu:Int):Nat:=2*n+200+(max 0 (min iS 100)).toNat*(2*eK eu+3)
theorem bd0(aJ:(oz.gS cv.cb.iK cv.cb.aC).2.1=0)(Fc:cv.lR=n):rY n (kg cv)/\tot n (kg cv)=M0 n cv.fl.iS cv.fl.eu/\(kg cv).st=1:=by
 have ak:¬(cv.cb.aC<0\/2<=cv.cb.aC\/cv.cb.iK<1):=by
  intro ak
  simp_all[fF.gS]
 rw[not_or,not_or]at ak;have ux:=NX (cv:=cv) (by omega) (by unfold l4;omega);have U:=Bz cv.fl.eu;have hpt:(⟨cv.cb.iK,cv.cb.aC,1,1,1,2⟩:fF).part cv.cb.aC=1\/(⟨cv.cb.iK,cv.cb.aC,1,1,1,2⟩:fF).part cv.cb.aC=2:=by
  unfold fF.part
  grind
 unfold kg;rw[ux];refine⟨⟨⟨.head rfl rfl rfl rfl rfl rfl rfl,rfl,rfl,rfl,by show(0:Nat)≠4;decide,by show 0<eK cv.fl.eu;omega,by show 0<eK cv.fl.eu;omega,fun h=>by cases h⟩,zero_le _,?_,rfl,fun _=>rfl⟩,?_,rfl⟩;show(oy cv).size ((⟨cv.cb.iK,cv.cb.aC,1,1,1,2⟩:fF).part cv.cb.aC)=n
 grind[size_12]
 show 132+(max 0 (min cv.fl.iS 100)).toNat*(2*eK cv.fl.eu+3)+(2*n+68)=_
 grind[M0]
structure Cn (n c4 s:Nat) (p:bX):Prop where
 dO:s<=c4+1
 lv:p.st=1->rY n p/\s+tot n p<=c4
theorem Cn.step(h:Cn n c4 s p)(aU:n<=20):Cn n c4 (if(p.step ct).1 then s+1 else s) (p.step ct).2:=by
 by_cases h1:p.st=1;obtain⟨ak,ht⟩:=h.lv h1;cases al:(p.step ct).1 with
 | true=>
  rw[if_pos rfl];rcases ak.step aU h1 al with h2|⟨h2,h3⟩
  exact⟨by omega,fun h=>absurd h h2⟩;exact⟨by omega,fun _=>⟨h3,by omega⟩⟩
 | false=>rw[if_neg (by simp)];obtain⟨dZ,gd,mg⟩:=(Aw h1 ak.lv al).lv ak;exact⟨h.dO,fun _=>⟨dZ,by omega⟩⟩
 rw[ajd h1];rw[if_neg (by simp)];exact h
theorem IA(ak:rY n p)(h1:p.st=1)(a0:(p.step 0).1=false)(cU:(p.step 1).1=false)(cR:(p.step 2).1=false):False:=by rw[fst_0 h1]at a0;rw[fst_1 h1]at cU;rw[fst_2 h1]at cR;exact ak.lv.Gn a0 cU cR
theorem gB.fst(h:gB p cI)(h1:p.st=1)(aM:ct=0\/ct=1\/ct=2):(cI.step ct).1=(p.step ct).1:=by
 obtain⟨q,rfl⟩:=h;have qW:({p with w:={p.w with q:=q}}:bX).st=1:=h1;rcases aM with rfl|rfl|rfl
 simp_all[fst_0]
 simp_all[fst_1]
 rw[fst_2 h1,fst_2 qW];rfl
theorem gB.trans{bp:bX}(h:gB p cI)(aT:gB cI bp):gB p bp:=by obtain⟨q,rfl⟩:=h;obtain⟨cp,rfl⟩:=aT;exact⟨cp,rfl⟩
structure ps (n c4 me s:Nat) (dM p:bX) (y:Nat):Prop where
 ya:Cn n c4 s p
 ge:me<=s
 or:me<s\/(gB dM p/\∀w:Nat,w<y->w<3->(dM.step (w:Int)).1=false)
theorem ps.step{me y:Nat}{dM:bX}(h:ps n c4 me s dM p y)(aU:n<=20)(aJ:dM.st=1)(ak:rY n dM):ps n c4 me (if(p.step (y:Int)).1 then s+1 else s) dM (p.step (y:Int)).2 (y+1):=by
 refine⟨h.ya.step aU,by have:=h.ge;grind,?_⟩;cases al:(p.step (y:Int)).1 with
 | true=>rw[if_pos rfl];left;have:=h.ge;omega
 | false=>
  rw[if_neg (by simp)];rcases h.or with h1|⟨h1,h2⟩
  omega;right;obtain⟨dZ,gd,mg⟩:=h1.lv ak;have ev:p.st=1:=mg.trans aJ;refine⟨h1.trans (Aw ev dZ.lv al),fun w aM h3=>?_⟩;by_cases e:w=y;subst e;rw[<- h1.fst aJ (by omega)];exact al
  grind
end V
end J
