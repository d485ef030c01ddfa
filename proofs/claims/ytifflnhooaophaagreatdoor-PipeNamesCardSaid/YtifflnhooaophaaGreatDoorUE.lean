/- texts of the pv, gd behind the oq -/
import Derived.Test.YtifflnhooaophaaGreatDoorUD
set_option linter.unusedVariables false
set_option linter.unusedSimpArgs false
set_option linter.unusedSectionVars false
set_option maxHeartbeats 8000000
set_option maxRecDepth 100000
namespace J
open Go Go.Ab
variable[cu:b0]
variable{H:au}{Γ:List (Nat×az)}{aa:VH}{v w x:Value}{aj bg:List Int}{j p:Nat}{e:Int}
abbrev agg(l:List Value):Value:=.agg l.toArray
theorem hi{p n:Nat}{ar:List Value}{w:Bool}{aa:VH}(h:al H Γ)(i:Nat)(aq:Γ[i]?=some (p,⟨ar,w⟩))(aX:ar.length=n)(bM:0<n)(ag:aa (agg ar) H):ah (ch n (ak p 0) H) aa:=by
 refine jM h i aq (show _=ar from ?_) aX bM ag
 grind
theorem gl{p n:Nat}{ar cN:List Value}{aa:VH}(h:al H Γ)(i:Nat)(aq:Γ[i]?=some (p,⟨ar,true⟩))(aX:ar.length=n)(aD:cN.length=n)(ad:cN.all eP=true)
  (ag:∀ab,al ab (Γ.set i (p,⟨cN,true⟩))->aa undef ab):ah (bC n (ak p 0) (agg cN) H) aa:=by
 refine o9 h i aq aD (by omega) ad fun ab hO=>ag ab ?_
 have e:ar.take 0++(dp (agg cN)++ar.drop (0+n))=cN:=by rw[List.drop_of_length_le (by omega)];show []++(cN++[])=cN;simp
 rw[e]at hO;exact hO
theorem km{a b:Value}:eA 0 (.tuple [a,b].toArray)=some a:=rfl
theorem kn{a b:Value}:eA 1 (.tuple [a,b].toArray)=some b:=rfl
theorem al.cf{L R:List (Nat×az)}(h:al H ((Γ++L)++R)):al H (Γ++R):=h.sub (List.Sublist.append (List.sublist_append_left Γ L) (List.Sublist.refl R))
abbrev zA(Γ:List (Nat×az))(aa:VH)(aj:List Int):Prop:=∀(ab:au) (aQ:Value) (bx:List Value),al ab (Γ++b2 aQ bx)->fI aQ aj bx->aa aQ ab
theorem zA.none(h:zA Γ aa [])(hO:al H Γ):aa bB H:=h H bB [] (by show al H (Γ++[]);rw[List.append_nil];exact hO) fI.nil
theorem acj:P.underlying 22=some (.slice 5):=by rfl
theorem BD(H:au):(eY P 22 0).f [] H=some (aF H.next 0 0 3,H.push []):=by rfl
theorem QE(k:IntKind)(n:Int)(H:au):(eY P 22 1).f [(0,.int k n)] H=some (aF H.next 0 1 3,H.push [.int k n]):=by rfl
theorem ack(a:Option Addr)(n c:Nat)(H:au):(eY P 369 1).f [(0,.slice a n c)] H=some (aF H.next 0 1 3,H.push [.slice a n c]):=by rfl
theorem arT(a cr:Option Addr)(n k7 c cC:Nat)(H:au):(eY P 369 2).f [(0,.slice a n c),(1,.slice cr k7 cC)] H=some (aF H.next 0 2 3,H.push [.slice a n c,.slice cr k7 cC]):=by rfl
theorem KO(hO:al H Γ)(hv:cl Γ v aj)(aD:aj.length<=100000000)(ag:zA Γ aa aj):wCall P 124 [v] H aa:=by
 apply apJ;unfold ZO;have jL:=hv;rcases hv with⟨rfl,rfl⟩|⟨p,o,c,rfl,_⟩
 ·exact ai (Kb acj) (fU rfl (ag.none hO))
 ·refine ai (Kb acj) (eX rfl (ih hO (BD _) ?_));intro q H hO;exact te (v:=aF q 0 0 3) (ar:=[]) (aj:=[]) hO (.inr ⟨q,.inr ⟨rfl,rfl⟩,rfl,Nat.le_refl _,rfl⟩) jL (by grind) ag
theorem arU{n:Nat}(aX:n<=8)(ag:aa (int n) H):wCall P 273 [int n] H aa:=by
 apply arG;unfold ab1
 repeat refine sr ?_
 rw[show max (0:Int) (min (n:Int) 8)=n by omega];exact ag
theorem arV{KP:List (List Int)}{y:Nat}(h:y<KP.length):(KP.take (y+1)).flatten=(KP.take y).flatten++KP[y]:=by grind[List.take_succ_eq_append_getElem]
def fq(y n:Nat):List Int:=(List.range y).map fun i=>((n/256^i%256:Nat):Int)
theorem qn(y n:Nat):(fq y n).length=y:=by simp[fq]
theorem arW(y n:Nat):fq (y+1) n=fq y n++[((n/256^y%256:Nat):Int)]:=by simp[fq,List.range_succ]
def j6(aj:List Int)(e:Int)(n:Nat):List Int:=if e=0/\n<=aj.length then aj.take n else []
def nQ(aj:List Int)(e:Int)(n:Nat):List Int:=if e=0/\n<=aj.length then aj.drop n else []
def lj(aj:List Int)(e:Int)(n:Nat):Int:=if e=0/\n<=aj.length then 0 else if e=0 then 51 else e
abbrev jD(v:Value)(e:Int):az:=⟨[v,int e],true⟩
theorem KQ{bK y:Nat×az}(h:Γ[j]?=some bK):(Γ.set j y)[j]?=some y:=List.getElem?_set_self (List.getElem?_eq_some_iff.1 h).1
theorem KR{dE:az}{s:Value}{lb:Nat}(h:cl Γ v aj)(bp:Γ[j]?=some (p,jD s e))(aw:∃a n c,s=.slice a n c):cl (Γ.set j (lb,dE)) v aj:=by
 rcases h with h|⟨bI,o,c,ad,af,ax|⟨acm,b,ax,aO⟩⟩
 ·exact .inl h
 ·exact .inr ⟨bI,o,c,ad,af,.inl ax⟩
 ·by_cases hjj:acm=j
  ·subst hjj;rw[bp]at ax;cases ax;obtain⟨a,n,cC,rfl⟩:=aw;refine .inr ⟨_,o,c,ad,af,.inl ?_⟩
   match aj,o,aO with
   | [],_,_=>rfl
   | y::r,0,aO=>simp at aO
   | y::r,1,aO=>simp at aO
   | y::r,o+2,aO=>simp at aO
  ·exact .inr ⟨bI,o,c,ad,af,.inr ⟨acm,b,by grind,aO⟩⟩
theorem arX(a:Option Addr)(n c:Nat):(di P 419).f [(0,.slice a n c)]=some (agg [.slice a n c,int 0]):=by rfl
theorem acn(hO:al H Γ)(hv:cl Γ v aj)(ag:∀ab p,al ab (Γ++[(p,jD v 0)])->aa (ak p 0) ab):wCall P 253 [v] H aa:=by apply arn;unfold abI;obtain⟨a,n,c,rfl⟩:=cl.lC hv;refine ai (arX _ _ _) (dT hO ?_);intro p H hO;exact ag _ _ hO
theorem aco{x:Int}(hO:al H Γ)(bp:Γ[j]?=some (p,jD v e))(ag:∀ab,al ab (Γ.set j (p,jD bB (if e=0 then x else e)))->aa (.tuple [].toArray) ab):wCall P 274 [ak p 0,int x] H aa:=by
 apply arH;unfold ab2;refine aY (aZ hO j bp rfl (ai fz (bT (fun h=>?_) (fun h=>?_))))
 ·rw[if_pos h]at ag;refine aY (fQ hO j bp rfl (show 1<2 by omega) (show _=[v,int x]from rfl) ?_);intro H hO;refine aY (fQ hO j (KQ bp) rfl (show 0<2 by omega) (show _=[bB,int x]from rfl) ?_);intro H hO;rw[List.set_set]at hO;exact ag _ hO
 ·rw[if_neg h]at ag;refine aY (fQ hO j bp rfl (show 0<2 by omega) (show _=[bB,int e]from rfl) ?_);intro H hO;exact ag _ hO
abbrev qo(v:Value)(aj:List Int)(aQ:Value)(bg:List Int):Prop:=∀ hz:List (Nat×az),cl hz v aj->cl hz aQ bg
theorem qo.none{v:Value}{aj:List Int}:qo v aj bB []:=fun _ _=>.nil
theorem BE(h:cl Γ v aj){n:Nat}(aX:n<=aj.length):∃aQ,hP 1 v none (some (int n)) none=some aQ/\qo v aj aQ (aj.take n):=by
 rcases h with⟨rfl,rfl⟩|⟨p,o,c,rfl,aA,_⟩
 ·have:n=0:=by simp_all
  subst this;exact⟨bB,rfl,.none⟩
 ·obtain⟨cC,gF,he⟩:=alP (o:=o) (p:=p) (n:=aj.length) (h:=(n:Int)) (by omega) (by omega) aA;rw[Int.toNat_natCast]at he;refine⟨_,he,fun hz h=>?_⟩;rcases h with⟨h,_⟩|⟨lb,dv,QF,jA,_,h⟩
  ·cases h
  cases jA;refine .inr ⟨p,o,cC,by simp_all,gF,?_⟩;rcases h with rfl|⟨j,b,ad,af⟩
  ·simp_all
  ·refine .inr ⟨j,b,ad,?_⟩;rw[List.length_take,Nat.min_eq_left aX];have:=congrArg (List.take n) af;rw[List.take_take,Nat.min_eq_left aX]at this
   simp_all
theorem KS(h:cl Γ v aj){n:Nat}(aX:n<=aj.length):∃aQ,hP 1 v (some (int n)) none none=some aQ/\qo v aj aQ (aj.drop n):=by
 rcases h with⟨rfl,rfl⟩|⟨p,o,c,rfl,aA,_⟩
 ·have:n=0:=by simp_all
  subst this;exact⟨bB,rfl,.none⟩
 ·have an:qE aj.length (some (int (n:Int)))=some n:=by
   show(match kf 0 (n:Int)with|true=>(match Nat.ble (n:Int).toNat aj.length with|true=>some (n:Int).toNat|false=>none)|false=>none)=_
   simp_all[ly,Nat.ble_eq_true_of_le]
  have he:∃cC,(cC=2\/cC=3)/\hP 1 (aF p o aj.length c) (some (int n)) none none=some (aF p (o+n) (aj.length-n) cC):=by
   rcases aA with rfl|rfl
   ·simp_all[hP,ow,r2,rj]
   simp_all[hP,ow,r2,rj]
  obtain⟨cC,gF,he⟩:=he;refine⟨_,he,fun hz h=>?_⟩;rcases h with⟨h,_⟩|⟨lb,dv,QF,jA,_,h⟩
  ·cases h
  cases jA;refine .inr ⟨p,o+n,cC,by simp_all,gF,?_⟩;rcases h with rfl|⟨j,b,ad,af⟩
  ·simp_all
  ·refine .inr ⟨j,b,ad,?_⟩;have:=congrArg (List.drop n) af;rw[List.drop_take,List.drop_drop]at this
   simp_all
theorem KT{n:Nat}(hO:al H Γ)(bp:Γ[j]?=some (p,jD v e))(hv:cl Γ v aj)(aX:n<=1000000)
  (ag:∀ab ev ec,al ab (Γ.set j (p,jD ec (lj aj e n)))->qo v aj ev (j6 aj e n)->qo v aj ec (nQ aj e n)->aa ev ab):wCall P 272 [ak p 0,int n] H aa:=by
 apply arF;unfold ab0
 repeat refine sr ?_
 rw[show max (n:Int) 0=n by omega];refine gb (fun aG ab=>aG=[ak p 0,int n,.bool (decide (¬(e=0/\n<=aj.length)))]/\al ab Γ) ?_ ?_
 ·refine aY (aZ hO j bp rfl (ai jh (bT (fun h=>?_) (fun h=>?_))))
  ·repeat refine bH ?_
   exact⟨by simp_all,hO⟩
  ·refine aY (aZ hO j bp rfl (cH hv.cG ?_))
   repeat refine bH ?_
   refine⟨?_,hO⟩
   simp_all
 clear hO;rintro aG H ⟨rfl,hO⟩
 try simp only[cR,cS]
 refine bT (fun h=>?_) (fun h=>?_)
 ·unfold j6 nQ lj at ag;rw[if_neg h,if_neg h,if_neg h]at ag;refine aco hO bp ?_;intro H hO;exact ag _ bB bB hO .none .none
 ·have h:=Decidable.not_not.1 h;unfold j6 nQ lj at ag;rw[if_pos h,if_pos h,if_pos h]at ag;obtain⟨ev,bn,bQ⟩:=BE hv h.2;obtain⟨ec,bF,cE⟩:=KS hv h.2;refine aY (aZ hO j bp rfl (ai bn (aY (aZ hO j bp rfl (ai bF (aY ?_))))));obtain⟨da,fF,cp,rfl⟩:=cl.lC (cE _ hv);refine fQ hO j bp rfl (show 0<2 by omega) (show _=[.slice da fF cp,int e]from rfl) ?_;intro H hO;rw[h.1]at hO;exact ag _ ev _ hO bQ cE
theorem acp{t:At}{aa vI:VH}(h:xJ P t aa)(ag:∀v H,aa v H->vI v H):xJ P t vI:=by obtain⟨n,cP,v,ab,ad,af⟩:=h;exact⟨n,cP,v,ab,ad,ag _ _ af⟩
theorem arY[L:b0]{l q KU:Nat}{G:Nat->List (Nat×az)}(b5:∀k,(G k)[KU]?=some (q,⟨[v],true⟩))(hv:∀k,cl (G k) v aj)(ao:aj.length<=1000000)
  (U:∀k (h:k<aj.length) H,al H (G (k+1))->xJ P (.round l [int k,.int .u8 aj[k]] H) fun b ab=>b=.bool true/\al ab (G k)) (hO:al H (G aj.length)) (ag:∀ab,al ab (G 0)->aa (.tuple [].toArray) ab):wCall P 281 [u6 l,ak q 0] H aa:=by
 apply arR;unfold ach;refine aZ hO KU (b5 _) rfl (cH (hv aj.length).cG ?_)
 repeat refine bH ?_
 refine arQ (fun k aG ab=>∃y:Nat,y<=aj.length/\k=y/\aG=[u6 l,ak q 0,int ((y:Int)-1)]/\al ab (G y)) _ _ ?_ aj.length _ _ ⟨aj.length,by omega,rfl,rfl,hO⟩;clear hO;rintro k aG ab ⟨y,ba,rfl,rfl,hO⟩;unfold acg
 try simp only[cR,cS]
 repeat refine bH ?_
 refine bT (fun h=>?_) (fun h=>?_)
 ·obtain⟨z,rfl⟩:∃z:Nat,k=z+1:=⟨k-1,by omega⟩;have eu:z<aj.length:=by omega
  have arZ:((z+1:Nat):Int)-1=z:=by omega
  rw[arZ]at*;refine aZ hO KU (b5 _) rfl ?_;obtain⟨bI,o,c,oc,b,rfl,ad,af⟩:=(hv (z+1)).at eu
  repeat refine bH ?_
  refine aZ hO oc ad (v:=.int .u8 aj[z]) (by simp_all) (Xn (acp (U z eu _ hO) ?_));rintro fl cD ⟨rfl,dd⟩
  repeat (first|refine bH ?_|refine wL ?_)
  exact⟨_,by omega,z,by omega,rfl,rfl,dd⟩
 ·have:k=0:=by omega
  subst this
  repeat refine Bm ?_
  exact ag _ hO
def hJ:List Int->Nat
 | []=>0
 | x::r=>x.toNat+256*hJ r
theorem KV:∀(aj:List Int),(∀x∈aj,0<=x/\x<=255)->hJ aj<256^aj.length
 | [],_=>by simp[hJ]
 | x::r,h=>by
  have ad:=KV r fun y ba=>h y (List.mem_cons_of_mem _ ba)
  have af:=h x List.mem_cons_self;simp only[hJ,List.length_cons,Nat.pow_succ];omega
theorem ar0{k:Nat}(h:k<aj.length):hJ (aj.drop k)=aj[k].toNat+256*hJ (aj.drop (k+1)):=by rw[List.drop_eq_getElem_cons h];rfl
theorem ar1{a b:Nat}(an:b<256):(a*2^8)|||b=b+256*a:=by rw[Nat.mul_comm,<- Nat.two_pow_add_eq_or_of_lt (i:=8) an];omega
theorem cl.bytes(an:∀x∈aj,0<=x/\x<=255)(n:Nat)(e:Int):∀x∈j6 aj e n,0<=x/\x<=255:=by grind[j6]
theorem KW(aj:List Int)(e:Int)(n:Nat):(j6 aj e n).length<=n:=by grind[j6]
theorem ar2[L:b0]{ya m:Nat}{b:Int}{y:Nat×az}{X:au->Prop}(hO:al H (Γ++[(ya,⟨[bS .u64 m],true⟩),y]))(aV:m<256^7)(an:0<=b/\b<=255)(ag:∀ab,al ab (Γ++[(ya,⟨[bS .u64 (b.toNat+256*m)],true⟩),y])->X ab):
  ah (aB (ak ya 0) H) fun ar3 cD=>ae ((ay P .shl 27 true).f ar3 (.int .u64 8)) fun ar4=>ah (j5 .u64 (.int .u8 b) cD) fun ar5 acq=>ae ((ay P .or 27 false).f ar4 ar5) fun Ei=>ah (bC 1 (ak ya 0) Ei acq) fun aU ar6=>X ar6:=by
 refine aZ hO (Γ.length+0) (aC rfl) rfl (ai (DI (n:=8) rfl (by decide)) ?_);rw[Gf an.1];refine cH (vB rfl) ?_;have af:m*2^8%gu .u64=m*2^8:=Nat.mod_eq_of_lt (show m*2^8<2^64 by omega);have ax:b.toNat%gu .u64=b.toNat:=Nat.mod_eq_of_lt (show b.toNat<2^64 by omega);rw[af,ax];refine ai (Bk rfl (show m*2^8<2^64 by omega) (show b.toNat<2^64 by omega)) ?_;rw[ar1 (by omega)];refine fQ hO (Γ.length+0) (aC rfl) rfl (show 0<1 by omega) (show _=[bS .u64 (b.toNat+256*m)]from rfl) ?_;intro H hO;exact ag _ hO.cy
theorem GJ{k:Nat}(ar7:k<=8)(hO:al H Γ)(bp:Γ[j]?=some (p,jD v e))(hv:cl Γ v aj)(an:∀x∈aj,0<=x/\x<=255)
  (ag:∀ab ec,al ab (Γ.set j (p,jD ec (lj aj e k)))->qo v aj ec (nQ aj e k)->aa (bS .u64 (hJ (j6 aj e k))) ab):wCall P 254 [ak p 0,int k] H aa:=by
 apply arp;unfold abK;refine dT hO ?_;intro ya H hO;have qM:=(List.getElem?_eq_some_iff.1 bp).1;refine fQ hO (Γ.length+0) (aC rfl) rfl (show 0<1 by omega) (show _=[bS .u64 0]from rfl) ?_;intro H hO
 replace hO:al H (Γ++[(ya,⟨[bS .u64 0],true⟩)]):=hO.cy
 refine arU ar7 (KT hO (aS bp) hv.bo (by omega) ?_);intro H ev ec hO bQ cE;rw[List.set_append_left _ _ qM]at hO;have mL:=cl.bytes an k e;have oI:=KW aj e k;have ag:=ag (ec:=ec);have bQ:=bQ _ (KR (dE:=jD ec (lj aj e k)) (lb:=p) hv bp (cl.lC hv));generalize Γ.set j (p,jD ec (lj aj e k))=qY at*;generalize j6 aj e k=bs at*;apply arE;unfold abZ;refine dT hO ?_;intro q qZ hO;obtain⟨dm,e8,db,bn⟩:=cl.lC bQ;have qK:dp ev=[ev]:=by rw[bn];rfl
 rw[qK,List.append_assoc]at hO;have ar8:∀m:Nat,cl (qY++[(ya,⟨[bS .u64 m],true⟩),(q,⟨[ev],true⟩)]) ev bs:=fun m=>bQ.bo
 refine Xm (L:=cu) hO (f:=281) (args:=[u6 (Nat.succ qZ.next),ak q 0]) rfl ?_;intro T bk jB fN pL;generalize hL:iA (Nat.succ qZ.next) _ cu=L at pL;refine arY (L:=L) (l:=Nat.succ qZ.next) (KU:=qY.length+1) (G:=fun m=>qY++[(ya,⟨[bS .u64 (hJ (bs.drop m))],true⟩),(q,⟨[ev],true⟩)]) (fun m=>aC rfl) (fun m=>ar8 _) (by omega) ?_ (by rw[List.drop_of_length_le (Nat.le_refl _)];exact pL) ?_
 ·intro m aV H GK;subst hL;refine Xj (n:=21) GK bk jB rfl (by decide) ?_;rw[aro];unfold abJ;refine Xh GK ?_;intro cD dd;have ao:=mL _ (List.getElem_mem aV);have ea:=KV (bs.drop (m+1)) fun y ba=>mL y (List.mem_of_mem_drop ba)
  have xH:256^(bs.drop (m+1)).length<=256^7:=Nat.pow_le_pow_right (by omega) (by grind);refine ar2 (L:=iA (Nat.succ qZ.next) _ cu) dd (Nat.lt_of_lt_of_le ea xH) ao ?_;intro iM kC;refine Xi kC ?_;intro ui y1;refine⟨rfl,?_⟩;rw[ar0 aV];exact y1
 ·intro cD dd;subst hL;refine⟨.ready,_,by simp,dd,?_⟩;intro iM kC;show ah _ _;exact aZ kC (qY.length+0) (aC rfl) rfl (ag _ kC.left cE)
abbrev acr(Γ:List (Nat×az))(j p:Nat)(aj:List Int)(e:Int)(n:Nat)(ec:Value):List (Nat×az):=Γ.set j (p,jD ec (lj aj e n))
theorem ar9{n:Nat}(hO:al H Γ)(bp:Γ[j]?=some (p,jD v e))(hv:cl Γ v aj)(aX:n<=1000000)(ao:aj.length<=1000000)
  (ag:∀ab ec aQ bx,al ab (acr Γ j p aj e n ec++b2 aQ bx)->qo v aj ec (nQ aj e n)->fI aQ (j6 aj e n) bx->aa aQ ab):wCall P 275 [ak p 0,int n] H aa:=by
 apply arI;unfold ab3;refine KT hO bp hv aX ?_;intro H ev ec hO bQ cE;have aD:=KW aj e n;refine KO hO (bQ _ (KR (dE:=jD ec (lj aj e n)) (lb:=p) hv bp (cl.lC hv))) (by omega) ?_;intro ab aQ bx iR jL;exact ag ab ec aQ bx iR cE jL
end J
namespace J
open Go Go.Ab
variable[cu:b0]
variable{H:au}{Γ:List (Nat×az)}{aa:VH}{v x:Value}{aj:List Int}{e:Int}
section
variable{α:Type}{f:α->List Value}{l:List α}{n i o m:Nat}
theorem acs(aM:∀x∈l,(f x).length=n):(l.flatMap f).length=l.length*n:=by
 induction l with
 | nil=>simp
 | cons a l bd=>grind
theorem QG(aM:∀x∈l,(f x).length=n)(h:i<l.length):∃A B,l.flatMap f=A++(f l[i]++B)/\A.length=i*n/\∀y,(l.set i y).flatMap f=A++(f y++B):=by
 refine⟨(l.take i).flatMap f,(l.drop (i+1)).flatMap f,?_,?_,fun y=>?_⟩
 ·grind[List.take_append_drop,List.drop_eq_getElem_cons]
 ·grind[acs,List.length_take]
 simp_all[List.set_eq_take_append_cons_drop]
theorem GL(aM:∀x∈l,(f x).length=n)(h:i<l.length)(aV:o+m<=n):((l.flatMap f).drop (i*n+o)).take m=((f l[i]).drop o).take m:=by obtain⟨A,B,e,br,_⟩:=QG aM h;have aD:=aM _ (List.getElem_mem h);rw[e,<- List.drop_drop,<- br,List.drop_left,List.drop_append_of_le_length (by omega),List.take_append_of_le_length (by grind)]
theorem KX(aM:∀x∈l,(f x).length=n)(h:i<l.length){y:α}{cN:List Value}(aV:o+cN.length<=n)(ba:f y=(f l[i]).take o++(cN++(f l[i]).drop (o+cN.length))):
  (l.flatMap f).take (i*n+o)++(cN++(l.flatMap f).drop (i*n+o+cN.length))=(l.set i y).flatMap f:=by
 obtain⟨A,B,e,br,aw⟩:=QG aM h;have aD:=aM _ (List.getElem_mem h);rw[aw,ba,e,<- br];have bn:(A++(f l[i]++B)).take (A.length+o)=A++(f l[i]).take o:=by grind[List.take_length_add_append]
 grind[List.drop_length_add_append]
theorem QH(aM:∀x∈l,(f x).length=n)(h:i<l.length)(aV:o<n):(l.flatMap f)[i*n+o]?=(f l[i])[o]?:=by
 obtain⟨A,B,e,br,_⟩:=QG aM h
 grind
end
theorem _root_.Go.Ab.al.nR{A B:List (Nat×az)}(h:al H ((Γ++A)++B)):al H ((Γ++B)++A):=h.fP (by rw[List.append_assoc,List.append_assoc];exact List.Perm.append_left Γ List.perm_append_comm)
theorem acu{size bytes n q c:Nat}{ar cN:List Value}{b:Bool}(hO:al H ((Γ++b2 v ar)++[(q,⟨cN,b⟩)]))(hv:jN size v n ar)(aw:cN.length=size)(bM:0<size)(ad:cN.all eP=true)
  (U:(n+1)*bytes<=140737488355328) (iK:n+1<=9223372036854775807)
  (ag:∀lb ab,al ab (Γ++[(lb,⟨ar++cN,true⟩)])->jN size (aF lb 0 (n+1) (2*size)) (n+1) (ar++cN)->aa (aF lb 0 (n+1) (2*size)) ab):ah (gD size bytes v (aF q 0 1 c) H) aa:=by
 have dd:=hO.nR;refine WO dd hv bM (m:=1) rfl (cN:=cN) ?_ (by omega) U iK ad (by omega) ?_
 ·have hg:=hO.at ((Γ++b2 v ar).length+0) (aC rfl) (b:=⟨cN,b⟩) (.inr (by grind))
  simp_all[Ga,List.take_of_length_le]
 ·intro lb ab iR jL;refine ag _ _ ?_ jL;show al ab (Γ++[(lb,⟨ar++cN,true⟩)]);exact al.sub iR (List.Sublist.append (List.sublist_append_left _ _) (List.Sublist.refl _))
theorem Ej{size bytes n q c:Nat}{ar cN:List Value}{b:Bool}(hO:al H ((Γ++b2 v ar)++[(q,⟨cN,b⟩)]))(hv:jN size v n ar)(aw:cN.length=size)(bM:0<size)(ad:cN.all eP=true)
  (U:(n+1)*bytes<=140737488355328) (iK:n+1<=9223372036854775807)
  (ag:∀aQ ab,al ab (Γ++b2 aQ (ar++cN))->jN size aQ (n+1) (ar++cN)->aa aQ ab):ah (gD size bytes v (aF q 0 1 c) H) aa:=
 acu hO hv aw bM ad U iK fun lb ab ad af=>ag _ _ ad af
abbrev oK(s:List Int):Value:=agg (bj s)
def jd:List Int:=List.replicate 64 255
def sx:List Int:=List.replicate 64 0
theorem od(s:List Int):(bj s).length=s.length:=by simp[bj]
theorem lT(s:List Int):(bj s).all eP=true:=by simp[bj,eP]
theorem zB(aj:List Int):(bj aj).all fH=true:=by simp[fH,ta]
theorem BF:dq P 102=bj sx:=by rfl
theorem QI:(di P 102).f []=some (oK sx):=by rfl
def acv:List pa:=List.replicate 64 (.i .u8)
theorem asa:qU P 100 102=some acv:=by rfl
theorem QJ:∀(s:List Int),kX (List.replicate s.length (.i .u8)) (bj s)
 | []=>trivial
 | _::s=>⟨rfl,QJ s⟩
theorem acw{s:List Int}(h:s.length=64):kX acv (bj s):=by have:=QJ s;rw[h]at this;exact this
theorem KY:∀(a b:List Int),oH (bj a) (bj b)=decide (a=b)
 | [],[]=>rfl
 | [],_::_=>rfl
 | _::_,[]=>rfl
 | x::a,y::b=>by
  show(decide (x=y)&&oH (bj a) (bj b))=_
  simp_all[KY]
theorem acx{a b:List Int}(c:Bool)(br:a.length=64)(an:b.length=64):(ay P .neq 102 c).f (oK a) (oK b)=some (.bool (decide (a≠b))):=by rw[Xd asa (by rfl) (by rfl) (acw br) (acw an),KY];simp
theorem asb{y:Nat}(h:y<64):(bj (List.replicate y 255++List.replicate (64-y) 0)).set (0+((y:Int)).toNat*1) (.int .u8 255)=bj (List.replicate (y+1) 255++List.replicate (64-(y+1)) 0):=by
 have e:0+((y:Int)).toNat*1=y:=by omega
 rw[e,show 64-y=(64-(y+1))+1 by omega,List.replicate_succ];have bF:bj (List.replicate y 255++0::List.replicate (64-(y+1)) 0)=bj (List.replicate y 255)++(.int .u8 0::bj (List.replicate (64-(y+1)) 0)):=by simp[bj]
 simp_all[List.replicate_succ']
theorem Ek(hO:al H Γ)(ag:∀ab,al ab Γ->aa (oK jd) ab):wCall P 116 [] H aa:=by
 apply apC;unfold ZG;rw[BF];refine dT hO ?_;intro kY H hO;refine dT hO ?_;intro dK H hO;rw[List.append_assoc]at hO;refine apB (fun k aG ab=>∃y:Nat,y<=64/\k=64-y/\aG=[ak kY 0,ak dK 0,int y]/\al ab (Γ++[(kY,⟨bj sx,true⟩),(dK,⟨bj (List.replicate y 255++List.replicate (64-y) 0),true⟩)])) _ _ ?_ 64 _ _ ⟨0,by omega,rfl,rfl,hO⟩;clear hO;rintro k aG ab ⟨y,ba,rfl,rfl,hO⟩;unfold ZF
 try simp only[cR,cS]
 repeat refine bH ?_
 refine bT (fun h=>?_) (fun h=>?_)
 ·have lU:y<64:=by omega
  refine ai (fA (by omega) (by omega)) (fQ hO (Γ.length+1) (aC rfl) rfl (by simp_all) (asb lU) ?_);intro H hO
  repeat refine bH ?_
  exact⟨_,by omega,y+1,by omega,rfl,rfl,hO.cy⟩
 ·have e:y=64:=by omega
  subst e
  repeat refine Bm ?_
  refine hi hO (Γ.length+1) (aC rfl) (by rfl) (by omega) (gl hO (Γ.length+0) (aC rfl) (by rfl) (by rfl) (lT _) ?_);intro H hO;exact hi hO (Γ.length+0) (by rw[Go.Ab.cy];exact aC rfl) (by rfl) (by omega) (ag _ (hO.cy).left)
end J
namespace J
open Go Go.Ab
variable[cu:b0]
variable{H:au}{Γ:List (Nat×az)}{aa:VH}{w x:Value}{j:Nat}{e:Int}
structure Cell where
 ur:List Int
 e5:List Int
 jz:Int
structure bO where
 cells:List Cell
 done:List (Nat×List Int)
 gQ:Int
 gv:Int
 fK:Bool
def kD(c:Cell):List Value:=bj c.ur++(bj c.e5++[int c.jz])
def jE(l:List Cell):List Value:=l.flatMap kD
def rG(c:Nat×List Int):List Value:=int c.1::bj c.2
def pc(l:List (Nat×List Int)):List Value:=l.flatMap rG
structure Cell.b1 (c:Cell):Prop where
 k:c.ur.length=64
 s:c.e5.length=64
 w:0<=c.jz/\c.jz<=100000
structure bO.b1 (d:bO):Prop where
 c:∀c∈d.cells,c.b1
 n:d.cells.length<=4096
 ds:∀x∈d.done,x.1<d.cells.length/\x.2.length=64
 m:d.gQ<=100000
 b:-1<=d.gv/\d.gv<=9223372036854775807
theorem vJ{c:Cell}(h:c.b1):(kD c).length=129:=by simp[kD,od,h.k,h.s]
theorem KZ{c:Nat×List Int}(h:c.2.length=64):(rG c).length=65:=by simp_all[rG]
theorem asc(c:Cell):(kD c).all fH=true:=by simp[kD,fH,ta]
theorem asd(c:Cell):(kD c).all eP=true:=by simp[kD,bj,eP]
theorem ase(c:Nat×List Int):(rG c).all eP=true:=by simp[rG,bj,eP]
theorem asf(l:List Cell):(jE l).all fH=true:=by simp_all[jE,asc]
theorem acy{l:List Cell}(h:∀c∈l,c.b1):(jE l).length=l.length*129:=acs fun c aA=>vJ (h c aA)
def kE(cM:Nat)(dB:Value)(d:bO):List Value:=[aF cM 0 d.cells.length 259,dB,int d.gQ,int d.gv,.bool d.fK]
abbrev hB(bm cM:Nat)(dB:Value)(d:bO):List (Nat×az):=[(bm,⟨kE cM dB d,true⟩),(cM,⟨jE d.cells,true⟩)]++b2 dB (pc d.done)
abbrev wT(dB:Value)(d:bO):Prop:=jN 65 dB d.done.length (pc d.done)
def bO.hF(d:bO)(kv:Int):Prop:=0<=kv/\kv<d.cells.length
instance (d:bO) (kv:Int):Decidable (d.hF kv):=by unfold bO.hF;infer_instance
variable{bm cM:Nat}{dB:Value}{d:bO}{a:Int}
theorem asg(hO:al H Γ)(bp:Γ[j]?=some (bm,⟨kE cM dB d,true⟩))(ag:aa (int d.cells.length) H):wCall P 115 [ak bm 0] H aa:=by
 apply apA;unfold ZD
 repeat refine bH ?_
 refine aZ hO j bp rfl ?_
 repeat refine sr ?_
 exact ag
theorem QK(hO:al H Γ)(bp:Γ[j]?=some (bm,⟨kE cM dB d,true⟩))(sw:d.hF a->aa (ak cM (a.toNat*129)) H)(gO:¬d.hF a->aa (.pointer none) H):wCall P 174 [ak bm 0,int a] H aa:=by
 apply aql;unfold aaB;refine gb (fun aG ab=>aG=[ak bm 0,int a]/\ab=H/\d.hF a) ?_ ?_
 ·repeat refine bH ?_
  refine bT (fun h=>?_) (fun h=>?_)
  ·repeat (first|refine bH ?_|refine lg ?_)
   exact gO fun a7=>by have:=a7.1;omega
  ·repeat refine bH ?_
   refine aZ hO j bp rfl ?_
   repeat (first|refine bH ?_|refine sr ?_)
   refine bT (fun af=>?_) (fun af=>?_)
   ·exact gO fun a7=>by have:=a7.2;omega
   ·exact⟨rfl,rfl,by omega,by omega⟩
 ·rintro aG ab ⟨rfl,rfl,h⟩
  try simp only[cR,cS]
  repeat refine bH ?_
  refine aZ hO j bp rfl (ai (ky h.1 h.2) ?_);rw[Nat.zero_add];exact sw h
def ij:Cell:=⟨sx,sx,0⟩
def bO.cell(d:bO)(a:Int):Cell:=d.cells.getD a.toNat ij
theorem bO.get{d:bO}{a:Int}(h:d.hF a):∃aq:a.toNat<d.cells.length,d.cells[a.toNat]=d.cell a:=by
 have aq:a.toNat<d.cells.length:=by have:=h.1;have:=h.2;omega
 simp_all[bO.cell]
theorem bO.rH{d:bO}{a:Int}(ok:∀c∈d.cells,c.b1)(h:d.hF a):(d.cell a).b1:=by obtain⟨aq,e⟩:=bO.get h;rw[<- e];exact ok _ (List.getElem_mem aq)
theorem acz{d:bO}{a:Int}(ok:∀c∈d.cells,c.b1)(h:d.hF a):((jE d.cells).drop (a.toNat*129+64)).take 64=bj (d.cell a).e5:=by obtain⟨aq,e⟩:=bO.get h;unfold jE;rw[GL (fun c aA=>vJ (ok c aA)) aq (by omega),e];have ag:=(bO.rH ok h);unfold kD;rw[List.drop_left' (by rw[od];exact ag.k),List.take_left' (by rw[od];exact ag.s)]
theorem acA{d:bO}{a:Int}(ok:∀c∈d.cells,c.b1)(h:d.hF a):(jE d.cells)[a.toNat*129+128]?=some (int (d.cell a).jz):=by obtain⟨aq,e⟩:=bO.get h;unfold jE;rw[QH (fun c aA=>vJ (ok c aA)) aq (by omega),e];have ag:=(bO.rH ok h);unfold kD;rw[<- List.append_assoc,List.getElem?_append_right (by simp[od,ag.k,ag.s])];simp[od,ag.k,ag.s]
def bO.gA(d:bO)(a:Int):List Int×Int:=if d.hF a then((d.cell a).e5,0)else(sx,61)
theorem ash(ok:∀c∈d.cells,c.b1)(hO:al H (Γ++hB bm cM dB d))(ag:∀ab,al ab (Γ++hB bm cM dB d)->aa (.tuple [oK (d.gA a).1,int (d.gA a).2].toArray) ab):wCall P 150 [ak bm 0,int a] H aa:=by
 apply aqd;unfold aar;rw[BF];refine dT hO ?_;intro cY H hO;refine QK hO (aS (aC (k:=0) rfl)) ?_ ?_
 ·intro h;unfold bO.gA at ag;rw[if_pos h]at ag;refine ai (show(ay P .eql 296 true).f _ _=some (.bool false)from rfl) ?_
  repeat (first|refine bH ?_|refine wL ?_)
  refine jM hO (Γ.length+1) (aS (aC rfl)) (acz ok h) (by rw[od];exact(bO.rH ok h).s) (by omega) (gl hO ((Γ++hB bm cM dB d).length+0) (aC rfl) (by rfl) (by rw[od];exact(bO.rH ok h).s) (lT _) ?_);intro H hO
  replace hO:=hO.cy
  exact hi hO ((Γ++hB bm cM dB d).length+0) (aC rfl) (by rw[od];exact(bO.rH ok h).s) (by omega) (ag _ hO.left)
 ·intro h;unfold bO.gA at ag;rw[if_neg h]at ag;refine ai (show(ay P .eql 296 true).f _ _=some (.bool true)from rfl) ?_
  repeat refine lg ?_
  refine ai QI (gl hO ((Γ++hB bm cM dB d).length+0) (aC rfl) (by rfl) (by rfl) (lT _) ?_);intro H hO
  replace hO:=hO.cy
  exact hi hO ((Γ++hB bm cM dB d).length+0) (aC rfl) (by rfl) (by omega) (ag _ hO.left)
def bO.step(d:bO):bO:={d with fK:=d.fK||decide (d.gv=0),gv:=if¬(d.fK=true\/d.gv=0)/\0<d.gv then d.gv-1 else d.gv}
theorem asi(an:-1<=d.gv/\d.gv<=9223372036854775807)(hO:al H Γ)(bp:Γ[j]?=some (bm,⟨kE cM dB d,true⟩))(ag:∀ab,al ab (Γ.set j (bm,⟨kE cM dB d.step,true⟩))->aa (.bool !d.step.fK) ab):wCall P 175 [ak bm 0] H aa:=by
 apply aqm;unfold aaC;have qM:=(List.getElem?_eq_some_iff.1 bp).1;refine gb (fun aG ab=>aG=[ak bm 0]/\al ab (Γ.set j (bm,⟨kE cM dB {d with fK:=d.fK||decide (d.gv=0)},true⟩))) ?_ ?_
 ·repeat refine bH ?_
  refine aZ hO j bp rfl ?_;cases aJ:d.fK with
  | true=>
   repeat (first|refine bH ?_|refine lg ?_)
   refine fQ hO j bp rfl (show 4<5 by omega) rfl ?_;intro H hO;refine⟨rfl,?_⟩;simp only[Bool.true_or];exact hO
  | false=>
   repeat (first|refine bH ?_|refine wL ?_)
   refine aZ hO j bp rfl ?_
   repeat refine bH ?_
   refine fQ hO j bp rfl (show 4<5 by omega) rfl ?_;intro H hO;refine⟨rfl,?_⟩;simp only[Bool.false_or];exact hO
 clear hO;rintro aG H ⟨rfl,hO⟩
 try simp only[cR,cS]
 have Be:(Γ.set j (bm,(⟨kE cM dB {d with fK:=d.fK||decide (d.gv=0)},true⟩:az)))[j]?=some (bm,⟨kE cM dB {d with fK:=d.fK||decide (d.gv=0)},true⟩):=List.getElem?_set_self qM;refine gb (fun aG ab=>aG=[ak bm 0]/\al ab (Γ.set j (bm,⟨kE cM dB d.step,true⟩))) ?_ ?_
 ·refine gb (fun aG ab=>aG=[ak bm 0,.bool (decide (¬(d.fK=true\/d.gv=0)/\0<d.gv))]/\ab=H) ?_ ?_
  ·repeat refine bH ?_
   refine aZ hO j Be rfl (ai jt ?_);by_cases aJ:d.fK=true\/d.gv=0
   ·have e:(d.fK||decide (d.gv=0))=true:=by simp_all
    rw[show(!({d with fK:=d.fK||decide (d.gv=0)}:bO).fK)=false by grind]
    repeat (first|refine bH ?_|refine wL ?_)
    exact⟨by simp_all,rfl⟩
   ·have e:(d.fK||decide (d.gv=0))=false:=by simp_all
    rw[show(!({d with fK:=d.fK||decide (d.gv=0)}:bO).fK)=true by simp_all]
    repeat (first|refine bH ?_|refine lg ?_)
    refine aZ hO j Be rfl ?_
    repeat refine bH ?_
    refine⟨?_,rfl⟩
    simp_all
  rintro aG ab ⟨rfl,rfl⟩
  try simp only[cR,cS]
  refine bT (fun h=>?_) (fun h=>?_)
  ·repeat refine bH ?_
   refine aZ hO j Be rfl (ai (nL (by grind) (by grind)) ?_)
   repeat refine bH ?_
   refine fQ hO j Be rfl (show 3<5 by omega) rfl ?_;intro H hO;rw[List.set_set]at hO;refine⟨trivial,?_⟩;have e:d.step={d with fK:=d.fK||decide (d.gv=0),gv:=d.gv-1}:=by simp_all[bO.step]
   rw[e];exact hO
  simp_all[bO.step,if_neg]
 clear hO Be;rintro aG H ⟨rfl,hO⟩
 try simp only[cR,cS]
 repeat refine bH ?_
 refine aZ hO j (List.getElem?_set_self qM) rfl ?_
 repeat refine bH ?_
 exact ag _ hO
end J
namespace J
open Go Go.Ab
variable[cu:b0]
variable{H:au}{Γ:List (Nat×az)}{aa:VH}{p:Nat}{e:Int}
variable{bm cM:Nat}{dB:Value}{d:bO}{a:Int}{s:List Int}
theorem K0(h:s.length=64):∃g:Nat->Int,s=(List.range 64).map g:=⟨fun i=>s.getD i 0,by
 apply List.ext_getElem?
 grind⟩
theorem asj(a:Int)(g:Nat->Int):(di P 300).f [(0,int a),(1,oK ((List.range 64).map g))]=some (agg (int a::bj ((List.range 64).map g))):=by rfl
theorem asl(a:Int)(h:s.length=64):(di P 300).f [(0,int a),(1,oK s)]=some (agg (int a::bj s)):=by grind[K0,asj]
theorem asm(a:Int)(g:Nat->Int)(H:au):(eY P 170 1).f [(0,agg (int a::bj ((List.range 64).map g)))] H=some (aF H.next 0 1 131,H.push (int a::bj ((List.range 64).map g))):=by rfl
theorem asn(a:Int)(h:s.length=64)(H:au):(eY P 170 1).f [(0,agg (int a::bj s))] H=some (aF H.next 0 1 131,H.push (int a::bj s)):=by grind[K0,asm]
theorem aso(g A8:Nat->Int):(di P 234).f [(0,oK ((List.range 64).map g)),(1,oK ((List.range 64).map A8))]=some (agg (kD ⟨(List.range 64).map g,(List.range 64).map A8,0⟩)):=by kernel_rfl
theorem asp{s cm:List Int}(h:s.length=64)(a7:cm.length=64):(di P 234).f [(0,oK s),(1,oK cm)]=some (agg (kD ⟨s,cm,0⟩)):=by grind[K0,aso]
theorem asq:dq P 300=int 0::bj sx:=by rfl
def bO.h6(d:bO)(a:Int)(c:Cell):bO:={d with cells:=d.cells.set a.toNat c}
def bO.put(d:bO)(a:Int)(s:List Int):bO:={d with cells:=d.cells.set a.toNat {d.cell a with e5:=s},done:=d.done++[(a.toNat,s)]}
theorem asr{c:Cell}(ok:c.b1)(h:s.length=64):kD {c with e5:=s}=(kD c).take 64++(bj s++(kD c).drop (64+(bj s).length)):=by unfold kD;rw[List.take_left' (by rw[od];exact ok.k),<- List.drop_drop,List.drop_left' (by rw[od];exact ok.k),List.drop_left' (by rw[od,od,ok.s,h])]
theorem ass{c:Cell}(ok:c.b1)(h:s.length=64):kD {c with ur:=s}=(kD c).take 0++(bj s++(kD c).drop (0+(bj s).length)):=by unfold kD;rw[List.take_zero,List.nil_append,Nat.zero_add,List.drop_left' (by rw[od,od,ok.k,h])]
theorem ast{c:Cell}(ok:c.b1)(n:Int):kD {c with jz:=n}=(kD c).take 128++([int n]++(kD c).drop (128+[int n].length)):=by
 have e:kD c=(bj c.ur++bj c.e5)++[int c.jz]:=by simp[kD]
 have l:(bj c.ur++bj c.e5).length=128:=by simp[od,ok.k,ok.s]
 grind[kD]
theorem asu(ok:∀c∈d.cells,c.b1)(h:d.hF a)(aw:s.length=64):(jE d.cells).take (a.toNat*129+64)++(bj s++(jE d.cells).drop (a.toNat*129+64+(bj s).length))=jE (d.cells.set a.toNat {d.cell a with e5:=s}):=by obtain⟨aq,e⟩:=bO.get h;have fC:=bO.rH ok h;exact KX (fun c aA=>vJ (ok c aA)) aq (by simp_all) (by simp_all[asr])
theorem asv(ok:∀c∈d.cells,c.b1)(h:d.hF a)(aw:s.length=64):(jE d.cells).take (a.toNat*129+0)++(bj s++(jE d.cells).drop (a.toNat*129+0+(bj s).length))=jE (d.cells.set a.toNat {d.cell a with ur:=s}):=by obtain⟨aq,e⟩:=bO.get h;have fC:=bO.rH ok h;exact KX (fun c aA=>vJ (ok c aA)) aq (by simp_all) (by simp_all[ass])
theorem asw(ok:∀c∈d.cells,c.b1)(h:d.hF a)(n:Int):(jE d.cells).take (a.toNat*129+128)++([int n]++(jE d.cells).drop (a.toNat*129+128+1))=jE (d.cells.set a.toNat {d.cell a with jz:=n}):=by obtain⟨aq,e⟩:=bO.get h;have fC:=bO.rH ok h;exact KX (fun c aA=>vJ (ok c aA)) aq (by simp) (by simp_all[ast])
theorem QL(ok:∀c∈d.cells,c.b1)(h:d.hF a):a.toNat*129+129<=(jE d.cells).length:=by rw[acy ok];have:=h.1;have:=h.2;omega
theorem acB(ok:d.b1)(h:d.hF a)(aw:s.length=64)(aJ:d.done.length<=1000000)(hO:al H (Γ++hB bm cM dB d))(hv:wT dB d)
  (ag:∀ab lV,al ab (Γ++hB bm cM lV (d.put a s))->wT lV (d.put a s)->aa (.tuple [].toArray) ab):wCall P 176 [ak bm 0,int a,oK s] H aa:=by
 apply aqn;unfold aaD;refine dT hO ?_;intro fx H hO
 replace hO:al H ((Γ++[(fx,⟨bj s,true⟩)])++hB bm cM dB d):=al.nR hO
 have l5:(Γ++[(fx,(⟨bj s,true⟩:az))])[Γ.length+0]?=some (fx,⟨bj s,true⟩):=aC rfl;have eC:∀ {H:au} {b8:List (Nat×az)},al H ((Γ++[(fx,⟨bj s,true⟩)])++b8)->al H (Γ++b8):=fun h=>al.cf h
 generalize Γ++[(fx,(⟨bj s,true⟩:az))]=hz at hO l5 eC
 repeat refine bH ?_
 refine aZ hO (hz.length+0) (aC rfl) rfl (hi hO (Γ.length+0) (aS l5) (by simp_all) (by omega) (ai (ky h.1 h.2) ?_))
 repeat refine bH ?_
 rw[Nat.zero_add];refine o9 hO (hz.length+1) (aC rfl) (show(bj s).length=64 by simp_all) (by have:=QL ok.c h;omega) (lT s) ?_;intro H hO;have bn:(jE d.cells).take (a.toNat*129+64)++(bj s++(jE d.cells).drop (a.toNat*129+64+64))=jE (d.h6 a {d.cell a with e5:=s}).cells:=by have:=asu ok.c h aw;rw[od,aw]at this;exact this
 have um:(d.h6 a {d.cell a with e5:=s}).cells.length=d.cells.length:=List.length_set
 replace hO:al H (hz++hB bm cM dB (d.h6 a {d.cell a with e5:=s})):=by
  have ax:al H (hz++([(bm,⟨kE cM dB d,true⟩),(cM,⟨(jE d.cells).take (a.toNat*129+64)++(bj s++(jE d.cells).drop (a.toNat*129+64+64)),true⟩)]++b2 dB (pc d.done))):=hO.cy;have bF:kE cM dB d=kE cM dB (d.h6 a {d.cell a with e5:=s}):=by unfold kE;rw[um];rfl
  rw[bn,bF]at ax;exact ax
 repeat refine bH ?_
 refine aZ hO (hz.length+0) (aC rfl) rfl (hi hO (Γ.length+0) (aS l5) (by simp_all) (by omega) (ai (asl a aw) ?_));have iR:al H ((hz++[(bm,⟨kE cM dB (d.h6 a {d.cell a with e5:=s}),true⟩),(cM,⟨jE (d.h6 a {d.cell a with e5:=s}).cells,true⟩)])++b2 dB (pc d.done)):=by rw[List.append_assoc];exact hO
 refine ih iR (asn a aw _) ?_;intro q H hO;have br:a=((a.toNat:Nat):Int):=by have:=h.1;omega
 refine Ej hO hv (by grind) (by omega) (by simp[bj,eP]) (by omega) (by omega) ?_;intro lV H hO jL;rw[List.append_assoc]at hO
 repeat refine bH ?_
 obtain⟨dm,e8,db,bn⟩:∃dm e8 db,lV=.slice dm e8 db:=by rcases jL with⟨_,h,_⟩|⟨p,rfl|rfl,_⟩;omega;exact⟨_,_,_,rfl⟩;grind
 refine fQ hO (hz.length+0) (aC rfl) (by rw[bn];rfl) (show 1<5 by omega) rfl ?_;intro H hO;have asx:pc d.done++(int a::bj s)=pc (d.put a s).done:=by show _=(d.done++[(a.toNat,s)]).flatMap rG;rw[List.flatMap_append];show _=d.done.flatMap rG++(int ((a.toNat:Nat):Int)::bj s++[]);rw[<- br,List.append_nil];rfl
 have ax:=eC hO.cy;rw[asx]at ax jL;refine ag _ lV ax ?_;show jN 65 lV (d.done++[(a.toNat,s)]).length _;rw[List.length_append];exact jL
end J
namespace J
open Go Go.Ab
variable[cu:b0]
variable{H:au}{Γ:List (Nat×az)}{aa:VH}{w x:Value}{j:Nat}
variable{bm cM:Nat}{dB:Value}{d:bO}{a:Int}{s:List Int}
theorem bO.vu(ok:d.b1):d.step.b1:=⟨ok.c,ok.n,ok.ds,ok.m,by
 have:=ok.b;unfold bO.step
 grind⟩
theorem QM{l:List Cell}{i:Nat}{c:Cell}(h:∀c∈l,c.b1)(aA:c.b1):∀x∈l.set i c,x.b1:=by
 intro x ao;rcases List.mem_or_eq_of_mem_set ao with a7|a7
 ·exact h x a7
 ·rw[a7];exact aA
theorem bO.IY{c:Cell}(ok:d.b1)(aA:c.b1):(d.h6 a c).b1:=⟨QM ok.c aA,by show(d.cells.set _ _).length<=_;rw[List.length_set];exact ok.n,by intro x ao;show x.1<(d.cells.set _ _).length/\_;rw[List.length_set];exact ok.ds x ao,ok.m,ok.b⟩
theorem bO.wx(ok:d.b1)(h:d.hF a)(aw:s.length=64):(d.put a s).b1:=by
 have aA:=bO.rH ok.c h;refine⟨QM ok.c ⟨aA.k,aw,aA.w⟩,by show(d.cells.set _ _).length<=_;rw[List.length_set];exact ok.n,?_,ok.m,ok.b⟩;intro x ao;show x.1<(d.cells.set _ _).length/\_;rw[List.length_set];rcases List.mem_append.1 ao with ao|ao
 ·exact ok.ds x ao
 ·have:x=(a.toNat,s):=by simp_all
  subst this;exact⟨by have:=h.1;have:=h.2;omega,aw⟩
def bO.fb(d:bO)(a:Int):bO×Int:=
 if¬d.hF a then(d,61)else if d.fK=true then(d,62)else if d.gQ<=(d.cell a).jz then(d,64)else if d.step.fK=true then(d.step,62)
 else((d.step.h6 a {d.cell a with jz:=(d.cell a).jz+1}).put a jd,0)
def bO.eS(d:bO)(a:Int)(s:List Int):bO×Int:=
 if¬d.hF a then(d,61)else if d.fK=true then(d,62)else if(d.cell a).e5≠jd then(d,63)else if d.step.fK=true then(d.step,62)
 else(d.step.put a s,0)
theorem bO.acC{c:Cell}:(d.h6 a c).hF a↔d.hF a:=by grind[bO.hF,bO.h6]
theorem bO.QN(ok:d.b1):(d.fb a).1.b1:=by
 unfold bO.fb;by_cases h:d.hF a
 ·rw[if_neg (fun a7=>a7 h)];split
  ·exact ok
  split
  ·exact ok
  split
  ·exact bO.vu ok
  rename_i ad af ax;have aA:=bO.rH ok.c h;have aM:=aA.w;have aV:=ok.m;refine bO.wx (bO.IY (bO.vu ok) ⟨aA.k,aA.s,?_⟩) (bO.acC.2 h) rfl
  grind
 ·rw[if_pos h];exact ok
theorem bO.QO(ok:d.b1)(aw:s.length=64):(d.eS a s).1.b1:=by
 unfold bO.eS;by_cases h:d.hF a
 ·rw[if_neg (fun a7=>a7 h)];split
  ·exact ok
  split
  ·exact ok
  split
  ·exact bO.vu ok
  exact bO.wx (bO.vu ok) h aw
 ·rw[if_pos h];exact ok
theorem QP(ok:d.b1)(hO:al H (Γ++hB bm cM dB d))(ag:∀ab,al ab (Γ++hB bm cM dB d.step)->aa (.bool !d.step.fK) ab):wCall P 175 [ak bm 0] H aa:=by refine asi ok.b hO (j:=Γ.length+0) (aC rfl) ?_;intro ab h;exact ag ab h.cy
theorem asy(ok:d.b1)(aJ:d.done.length<=1000000)(hO:al H (Γ++hB bm cM dB d))(hv:wT dB d)
  (ag:∀ab lV,al ab (Γ++hB bm cM lV (d.fb a).1)->wT lV (d.fb a).1->aa (int (d.fb a).2) ab):wCall P 262 [ak bm 0,int a] H aa:=by
 apply arB;unfold abW;unfold bO.fb at ag;refine QK hO (aC (k:=0) rfl) ?_ ?_
 ·intro h;rw[if_neg (fun a7=>a7 h)]at ag;refine ai (show(ay P .eql 296 true).f _ _=some (.bool false)from rfl) ?_
  repeat (first|refine bH ?_|refine wL ?_)
  refine aZ hO (Γ.length+0) (aC rfl) rfl (sk (fun an=>?_) (fun an=>?_))
  ·rw[if_pos an]at ag;exact ag _ _ hO hv
  rw[if_neg (by grind)]at ag
  repeat refine bH ?_
  refine aZ hO (Γ.length+1) (aC rfl) (acA ok.c h) ?_
  repeat refine bH ?_
  refine aZ hO (Γ.length+0) (aC rfl) rfl (ai uk (bT (fun ad=>?_) (fun ad=>?_)))
  ·rw[if_pos ad]at ag;exact ag _ _ hO hv
  rw[if_neg ad]at ag;refine QP ok hO ?_;clear hO;intro H hO;refine ai jt ?_;rw[Bool.not_not];refine sk (fun af=>?_) (fun af=>?_)
  ·rw[if_pos af]at ag;exact ag _ _ hO hv
  rw[if_neg (by grind)]at ag;have zC:=bO.vu ok;have aM:=(bO.rH ok.c h).w
  repeat refine bH ?_
  refine aZ hO (Γ.length+1) (aC rfl) (acA (d:=d.step) zC.c h) (ai (mn (by show _<=(d.cell a).jz+1;omega) (by show(d.cell a).jz+1<=_;omega)) ?_)
  repeat refine bH ?_
  refine o9 hO (Γ.length+1) (aC rfl) (show([int ((d.cell a).jz+1)]:List Value).length=1 from rfl) (by have:=QL zC.c (d:=d.step) h;omega) rfl ?_;clear hO;intro H hO;have bn:=asw (d:=d.step) zC.c h ((d.cell a).jz+1)
  replace hO:al H (Γ++hB bm cM dB (d.step.h6 a {d.cell a with jz:=(d.cell a).jz+1})):=by
   have ax:al H (Γ++([(bm,⟨kE cM dB d.step,true⟩),(cM,⟨(jE d.step.cells).take (a.toNat*129+128)++([int ((d.cell a).jz+1)]++(jE d.step.cells).drop (a.toNat*129+128+1)),true⟩)]++b2 dB (pc d.done))):=hO.cy;have bF:kE cM dB d.step=kE cM dB (d.step.h6 a {d.cell a with jz:=(d.cell a).jz+1}):=by unfold kE;rw[show(d.step.h6 a {d.cell a with jz:=(d.cell a).jz+1}).cells.length=d.step.cells.length from List.length_set];rfl
   rw[bn,bF]at ax;exact ax
  have K1:(d.step.h6 a {d.cell a with jz:=(d.cell a).jz+1}).b1:=by
   have aA:=bO.rH ok.c h;have aV:=ok.m;refine bO.IY zC ⟨aA.k,aA.s,?_⟩
   grind
  refine Ek hO ?_;clear hO;intro H hO;refine acB K1 (bO.acC.2 h) rfl aJ hO hv ?_;clear hO;intro H lV hO jL;exact ag _ _ hO jL
 ·intro h;rw[if_pos h]at ag;refine ai (show(ay P .eql 296 true).f _ _=some (.bool true)from rfl) ?_
  repeat refine lg ?_
  exact ag _ _ hO hv
theorem asz(ok:d.b1)(aw:s.length=64)(aJ:d.done.length<=1000000)(hO:al H (Γ++hB bm cM dB d))(hv:wT dB d)
  (ag:∀ab lV,al ab (Γ++hB bm cM lV (d.eS a s).1)->wT lV (d.eS a s).1->aa (int (d.eS a s).2) ab):wCall P 119 [ak bm 0,int a,oK s] H aa:=by
 apply apF;unfold ZJ;unfold bO.eS at ag;refine dT hO ?_;clear hO;intro fx H hO
 replace hO:al H ((Γ++[(fx,⟨bj s,true⟩)])++hB bm cM dB d):=al.nR hO
 have l5:(Γ++[(fx,(⟨bj s,true⟩:az))])[Γ.length+0]?=some (fx,⟨bj s,true⟩):=aC rfl;have eC:∀ {H:au} {b8:List (Nat×az)},al H ((Γ++[(fx,⟨bj s,true⟩)])++b8)->al H (Γ++b8):=fun h=>al.cf h
 generalize Γ++[(fx,(⟨bj s,true⟩:az))]=hz at hO l5 eC;refine QK hO (aC (k:=0) rfl) ?_ ?_
 ·intro h;rw[if_neg (fun a7=>a7 h)]at ag;refine ai (show(ay P .eql 296 true).f _ _=some (.bool false)from rfl) ?_
  repeat (first|refine bH ?_|refine wL ?_)
  refine aZ hO (hz.length+0) (aC rfl) rfl (sk (fun an=>?_) (fun an=>?_))
  ·rw[if_pos an]at ag;exact ag _ _ (eC hO) hv
  rw[if_neg (by grind)]at ag
  repeat refine bH ?_
  refine jM hO (hz.length+1) (aC rfl) (acz ok.c h) (by rw[od];exact(bO.rH ok.c h).s) (by omega) (Ek hO ?_);intro cD dd;refine⟨ha hO (hz.length+1) (aC rfl) dd (hz.length+1) (aC rfl) (asf _),?_⟩;refine ai (acx _ (bO.rH ok.c h).s rfl) ?_;clear hO;refine bT (fun ad=>?_) (fun ad=>?_)
  ·rw[if_pos ad]at ag;exact ag _ _ (eC dd) hv
  rw[if_neg ad]at ag;refine QP ok dd ?_;clear dd;intro H hO;refine ai jt ?_;rw[Bool.not_not];refine sk (fun af=>?_) (fun af=>?_)
  ·rw[if_pos af]at ag;exact ag _ _ (eC hO) hv
  rw[if_neg (by grind)]at ag;refine hi hO (Γ.length+0) (aS l5) (by simp_all) (by omega) (acB (bO.vu ok) h aw aJ hO hv ?_);clear hO;intro H lV hO jL;exact ag _ _ (eC hO) jL
 ·intro h;rw[if_pos h]at ag;refine ai (show(ay P .eql 296 true).f _ _=some (.bool true)from rfl) ?_
  repeat refine lg ?_
  exact ag _ _ (eC hO) hv
end J
namespace J
open Go Go.Ab
variable[cu:b0]
variable{H:au}{Γ:List (Nat×az)}{aa:VH}{w x:Value}{p:Nat}
variable{bm cM:Nat}{dB:Value}{d:bO}{s:List Int}
def tn(ar:List Cell)(x:Nat×List Int):List Cell:=ar.set x.1 {ar.getD x.1 ij with ur:=x.2}
def jP(ar:List Cell)(l:List (Nat×List Int)):List Cell:=l.foldl tn ar
theorem asA{ar:List Cell}{x:Nat×List Int}(h:∀c∈ar,c.b1)(ao:x.2.length=64)(aX:x.1<ar.length):∀c∈tn ar x,c.b1:=by
 refine QM h ?_;have:(ar.getD x.1 ij).b1:=by rw[List.getD_eq_getElem?_getD,List.getElem?_eq_getElem aX];exact h _ (List.getElem_mem aX)
 exact⟨ao,this.s,this.w⟩
theorem BG:∀(l:List (Nat×List Int)) (ar:List Cell),(jP ar l).length=ar.length
 | [],_=>rfl
 | x::l,ar=>by show(jP (tn ar x) l).length=_;rw[BG l];exact List.length_set
theorem QQ:∀(l:List (Nat×List Int)) (ar:List Cell),(∀c∈ar,c.b1)->(∀x∈l,x.1<ar.length/\x.2.length=64)->∀c∈jP ar l,c.b1
 | [],_,h,_=>h
 | x::l,ar,h,aD=>by
  have ad:=aD x List.mem_cons_self;refine QQ l (tn ar x) (asA h ad.2 ad.1) ?_;intro y ba;show y.1<(ar.set _ _).length/\_
  grind
theorem asB{l:List (Nat×List Int)}{x:Nat×List Int}{ar:List Cell}:jP ar (l++[x])=tn (jP ar l) x:=by simp[jP]
def bO.iS(d:bO):bO×Int:=if d.fK=true then(d,62)else if d.step.fK=true then(d.step,62)else({d.step with cells:=jP d.cells d.done,done:=[]},0)
theorem bO.QR(ok:d.b1):d.iS.1.b1:=by
 unfold bO.iS;split
 ·exact ok
 split
 ·exact bO.vu ok
 have zC:=bO.vu ok;refine⟨QQ _ _ ok.c ok.ds,by show(jP _ _).length<=_;rw[BG];exact ok.n,?_,zC.m,zC.b⟩
 simp_all
theorem asC{dB:Value}{l:List (Nat×List Int)}(hv:jN 65 dB l.length (pc l)){y:Nat}(h:y<l.length):∃p c,dB=aF p 0 l.length c/\b2 dB (pc l)=[(p,⟨pc l,true⟩)]:=by
 rcases hv with⟨rfl,aR,_⟩|⟨p,rfl|rfl,_⟩
 ·omega
 ·exact⟨p,_,rfl,rfl⟩
 ·exact⟨p,_,rfl,rfl⟩
theorem asD{l:List (Nat×List Int)}(aD:∀x∈l,x.2.length=64){y:Nat}(h:y<l.length):((pc l).drop (y*65)).take 65=rG l[y]:=by
 have:=GL (f:=rG) (o:=0) (m:=65) (fun c aA=>KZ (aD c aA)) h (by omega);unfold pc;rw[Nat.add_zero]at this
 grind[KZ]
theorem asE{l:List Cell}{i:Nat}:l.getD i ij=({d with cells:=l}:bO).cell (i:Int):=by rfl
theorem asF(ok:d.b1)(aJ:d.done.length<=1000000)(hO:al H (Γ++hB bm cM dB d))(hv:wT dB d)
  (ag:∀ab lV,al ab (Γ++hB bm cM lV d.iS.1)->wT lV d.iS.1->aa (int d.iS.2) ab):wCall P 120 [ak bm 0] H aa:=by
 apply apH;unfold ZM;unfold bO.iS at ag;refine gb (fun aG ab=>aG=[ak bm 0,int 0]/\d.fK=false/\d.step.fK=false/\al ab (Γ++hB bm cM dB d.step)) ?_ ?_
 ·repeat refine bH ?_
  refine aZ hO (Γ.length+0) (aC rfl) rfl ?_;cases an:d.fK with
  | true=>
   rw[if_pos an]at ag
   repeat (first|refine bH ?_|refine lg ?_)
   exact ag _ _ hO hv
  | false=>
   rw[if_neg (by grind)]at ag;refine eX rfl (QP ok hO ?_);clear hO;intro H hO;refine ai jt (ai qi ?_);rw[Bool.not_not];refine sk (fun af=>?_) (fun af=>?_)
   ·rw[if_pos af]at ag;exact ag _ _ hO hv
   ·exact⟨rfl,rfl,af,hO⟩
 clear hO;rintro aG H ⟨rfl,an,af,hO⟩;rw[if_neg (by grind),if_neg (by grind)]at ag
 try simp only[cR,cS]
 repeat refine bH ?_
 refine aZ hO (Γ.length+0) (aC rfl) rfl (cH hv.cG ?_);have zC:=bO.vu ok;have asG:∀x∈d.done,x.2.length=64:=fun x ao=>(ok.ds x ao).2
 refine apG (fun k aG ab=>∃y:Nat,y<=d.done.length/\k=d.done.length-y/\aG=[ak bm 0,int 0,dB,int d.done.length,int y]/\al ab (Γ++hB bm cM dB {d.step with cells:=jP d.cells (d.done.take y)})) _ _ ?_ d.done.length _ _ ⟨0,by omega,rfl,rfl,hO⟩;clear hO;rintro k aG ab ⟨y,ba,rfl,rfl,hO⟩;unfold ZL
 try simp only[cR,cS]
 repeat refine bH ?_
 refine bT (fun h=>?_) (fun h=>?_)
 ·have lU:y<d.done.length:=by omega
  obtain⟨p,c,bn,bF⟩:=asC hv lU;have ao:=ok.ds _ (List.getElem_mem lU);have j4:(hB bm cM dB {d.step with cells:=jP d.cells (d.done.take y)})[2]?=some (p,⟨pc d.done,true⟩):=by
   show([_,_]++b2 dB (pc d.done))[2]?=_
   grind
  rw[bn];refine ai (ky (by omega) (by omega)) ?_;rw[show 0+((y:Nat):Int).toNat*65=y*65 by omega];rw[<- bn];refine jM hO (Γ.length+2) (aC j4) (asD asG lU) (KZ ao.2) (by omega) ?_;rw[asq];refine dT hO ?_;clear hO;intro cY H hO;refine gl hO ((Γ++hB bm cM dB {d.step with cells:=jP d.cells (d.done.take y)}).length+0) (aC rfl) (by rfl) (KZ ao.2) (ase _) ?_;clear hO;intro H hO
  replace hO:=al.nR hO.cy
  replace hO:al H ((Γ++[(cY,⟨rG d.done[y],true⟩)])++hB bm cM dB {d.step with cells:=jP d.cells (d.done.take y)}):=hO
  have i4:(Γ++[(cY,(⟨rG d.done[y],true⟩:az))])[Γ.length+0]?=some (cY,⟨rG d.done[y],true⟩):=aC rfl;have eC:∀ {H:au} {b8:List (Nat×az)},al H ((Γ++[(cY,⟨rG d.done[y],true⟩)])++b8)->al H (Γ++b8):=fun h=>al.cf h
  generalize Γ++[(cY,(⟨rG d.done[y],true⟩:az))]=hz at hO i4 eC
  repeat refine bH ?_
  refine aZ hO (hz.length+0) (aC rfl) rfl ?_
  repeat refine bH ?_
  refine aZ hO (Γ.length+0) (aS i4) rfl ?_
  repeat refine bH ?_
  refine jM hO (Γ.length+0) (aS i4) (show((rG d.done[y]).drop 1).take 64=bj d.done[y].2 from ?_) (by simp_all) (by omega) ?_
  ·show(bj d.done[y].2).take 64=_
   simp_all[List.take_of_length_le]
  have hh:({d.step with cells:=jP d.cells (d.done.take y)}:bO).hF (d.done[y].1:Int):=⟨by omega,by grind[BG]⟩;have K1:∀c∈jP d.cells (d.done.take y),c.b1:=QQ _ _ ok.c (fun x ao=>ok.ds x (List.mem_of_mem_take ao));refine ai (ky hh.1 hh.2) ?_
  repeat refine bH ?_
  rw[Nat.zero_add];refine o9 hO (hz.length+1) (aC rfl) (show(bj d.done[y].2).length=64 by simp_all) (by have:=QL K1 (d:={d.step with cells:=jP d.cells (d.done.take y)}) hh;omega) (lT _) ?_;clear hO;intro H hO;have ey:=asv (d:={d.step with cells:=jP d.cells (d.done.take y)}) K1 hh ao.2;rw[od,ao.2]at ey
  replace hO:al H (hz++hB bm cM dB {d.step with cells:=jP d.cells (d.done.take (y+1))}):=by
   have ax:al H (hz++([(bm,⟨kE cM dB {d.step with cells:=jP d.cells (d.done.take y)},true⟩),(cM,⟨(jE (jP d.cells (d.done.take y))).take ((d.done[y].1:Int).toNat*129+0)++(bj d.done[y].2++(jE (jP d.cells (d.done.take y))).drop ((d.done[y].1:Int).toNat*129+0+64)),true⟩)]++b2 dB (pc d.done))):=hO.cy;rw[ey]at ax;have i6:jP d.cells (d.done.take (y+1))=(jP d.cells (d.done.take y)).set (d.done[y].1:Int).toNat {({d.step with cells:=jP d.cells (d.done.take y)}:bO).cell (d.done[y].1:Int)with ur:=d.done[y].2}:=by grind[List.take_succ_eq_append_getElem,asB,tn,asE,Int.toNat_natCast]
   show al H (hz++([(bm,⟨[aF cM 0 (jP d.cells (d.done.take (y+1))).length 259,dB,int d.step.gQ,int d.step.gv,.bool d.step.fK],true⟩),(cM,⟨jE (jP d.cells (d.done.take (y+1))),true⟩)]++b2 dB (pc d.done)));rw[BG,i6];have aO:al H (hz++([(bm,⟨[aF cM 0 (jP d.cells (d.done.take y)).length 259,dB,int d.step.gQ,int d.step.gv,.bool d.step.fK],true⟩),(cM,⟨jE ((jP d.cells (d.done.take y)).set (d.done[y].1:Int).toNat {({d.step with cells:=jP d.cells (d.done.take y)}:bO).cell (d.done[y].1:Int)with ur:=d.done[y].2}),true⟩)]++b2 dB (pc d.done))):=ax;rw[BG]at aO;exact aO
  repeat refine bH ?_
  exact⟨_,by omega,y+1,by omega,rfl,rfl,eC hO⟩
 ·have lW:y=d.done.length:=by omega
  subst lW
  repeat refine bH ?_
  refine fQ hO (Γ.length+0) (aC rfl) rfl (show 1<5 by omega) rfl ?_;clear hO;intro H hO;rw[List.take_length]at hO;refine ag _ bB ?_ (.inl ⟨rfl,rfl,rfl⟩);have ax:al H (Γ++([(bm,⟨kE cM bB {d.step with cells:=jP d.cells d.done,done:=[]},true⟩),(cM,⟨jE (jP d.cells d.done),true⟩)]++b2 dB (pc d.done))):=hO.cy;exact ax.sub (List.Sublist.append (List.Sublist.refl _) (List.Sublist.append (List.Sublist.refl _) (List.nil_sublist _)))
end J
namespace J
open Go Go.Ab
variable[cu:b0]
variable{H:au}{Γ:List (Nat×az)}{aa:VH}{v:Value}{bg:List Int}{e:Int}
variable{bm cM:Nat}{dB:Value}{d:bO}
theorem asH{o n c i q:Nat}{ar:List Value}{aa:VH}(hO:al H Γ)(aq:Γ[i]?=some (q,⟨ar,true⟩))(hv:cl Γ v bg)(aX:bg.length<=n)(aD:o+n<=ar.length)
  (ag:∀ab,al ab (Γ.set i (q,⟨ar.take o++(bj bg++ar.drop (o+bg.length)),true⟩))->aa (int bg.length) ab):ah (qD 1 (aF q o n c) v H) aa:=by
 obtain⟨ab,aM,aw⟩:=F8 hO (o:=o) (bV:=bj bg) aq (by grind) (by simp[eP]);unfold qD;simp only[hv.mZ];have aV:Nat.min bg.length n=bg.length:=Nat.min_eq_left aX;rw[aV];by_cases aR:bg.length=0
 ·have:bg=[]:=List.length_eq_zero_iff.1 aR;subst this;refine cH (show some (Value.int .i64 0,H)=_ from rfl) ?_;have ag:=ag H;rw[show ar.take o++(bj []++ar.drop (o+([]:List Int).length))=ar by simp[bj],O4 aq]at ag;exact ag hO
 ·have an:Nat.beq bg.length 0=false:=by grind[Nat.eq_of_beq_eq_true]
  rw[an];simp only[Bool.false_eq_true,if_false];rw[hv.pE hO];simp only;rw[aM];refine cH (show some (Value.int .i64 ((bg.length:Nat):Int),ab)=_ from rfl) ?_;rw[List.length_map]at aw;exact ag _ aw
theorem asI{hz:List (Nat×az)}{d eE:bO}{ar:List Value}(hO:al H ((hz++hB bm cM dB d).set (hz.length+1) (cM,⟨ar,true⟩)))(aA:ar=jE eE.cells)(aD:eE.cells.length=d.cells.length)(ad:eE.done=d.done)(af:eE.gQ=d.gQ)(ax:eE.gv=d.gv)(aO:eE.fK=d.fK):al H (hz++hB bm cM dB eE):=by
 have bl:al H (hz++([(bm,⟨kE cM dB d,true⟩),(cM,⟨ar,true⟩)]++b2 dB (pc d.done))):=hO.cy;have e:kE cM dB d=kE cM dB eE:=by simp_all[kE]
 rw[aA,e,<- ad]at bl;exact bl
end J
namespace J
open Go Go.Ab
variable[cu:b0]
variable{w x:Value}
variable{cM:Nat}
theorem asJ:qF P 169=⟨tO 129 136 (kD ij)⟩:=by rfl
theorem acD{α:Type}(f:α->List Value)(z:α):∀n:Nat,fS n (f z)=(List.replicate n z).flatMap f
 | 0=>rfl
 | n+1=>by show hT (f z) (fS n (f z))=_;rw[iF,acD f z n,List.replicate_succ,List.flatMap_cons]
theorem asK(n:Nat)(cM:Nat)(w:Int):(di P 172).f [(0,aF cM 0 n 259),(2,int w),(3,.int .i64 (-1))]=some (agg [aF cM 0 n 259,bB,int w,int (-1),.bool false]):=by rfl
def tp:Cell:=⟨jd,jd,0⟩
def bO.cN(n:Nat)(w:Int):bO:=⟨List.replicate n tp,[],w,-1,false⟩
theorem asL:ij.b1:=⟨rfl,rfl,by decide⟩
theorem El:tp.b1:=⟨rfl,rfl,by decide⟩
theorem bO.acE{n:Nat}{w:Int}(aX:n<=4096)(aM:w<=100000):(bO.cN n w).b1:=by refine⟨fun c aA=>?_,by show(List.replicate n _).length<=_;simp_all,fun x ao=>(by cases ao),aM,by show-1<=(-1:Int)/\(-1:Int)<=_;omega⟩;rw[(List.mem_replicate.1 aA).2];exact El
end J
namespace J
open Go Go.Ab
variable[cu:b0]
variable{H:au}{Γ:List (Nat×az)}{aa:VH}{x:Value}{p:Nat}{e:Int}
structure Op where
 eI:Int
 part:Int
 bh:Int
 dW:Int
structure bt where
 d:bO
 jF:List (Nat×Nat)
 dW:Int
 bA:List Op
def kh(o:Op):List Value:=[int o.eI,int o.part,int o.bh,int o.dW]
def rI(l:List Op):List Value:=l.flatMap kh
def uu(l:List (Nat×Nat)):List Value:=l.flatMap fun x=>[int x.1,int x.2]
structure lG where
 cV:Nat
 bm:Nat
 cM:Nat
 bz:Nat
 dB:Value
 iT:Value
def C5(L:lG)(m:bt):List Value:=[ak L.bm 0,aF L.bz 0 m.jF.length 4,int m.dW,L.iT]
abbrev wU(L:lG)(m:bt):List (Nat×az):=[(L.cV,⟨C5 L m,true⟩),(L.bz,⟨uu m.jF,true⟩)]
abbrev dQ(L:lG)(m:bt):List (Nat×az):=wU L m++(b2 L.iT (rI m.bA)++hB L.bm L.cM L.dB m.d)
structure lk (L:lG) (m:bt):Prop where
 d:wT L.dB m.d
 o:jN 4 L.iT m.bA.length (rI m.bA)
structure lG.Eq (L cv:lG):Prop where
 m:cv.cV=L.cV
 d:cv.bm=L.bm
 c:cv.cM=L.cM
 s:cv.bz=L.bz
structure bt.b1 (m:bt):Prop where
 d:m.d.b1
 s:∀x∈m.jF,x.1+x.2<=m.d.cells.length
 n:m.jF.length<=16
def bt.hR(m:bt)(N:Nat):Prop:=m.d.done.length<=N/\m.bA.length<=N
variable{L:lG}{m:bt}{part bh:Int}
theorem dQ.GM(h:al H (Γ++dQ L m)):al H (((Γ++wU L m)++b2 L.iT (rI m.bA))++hB L.bm L.cM L.dB m.d):=by rw[List.append_assoc,List.append_assoc];exact h
theorem dQ.QS(h:al H (((Γ++wU L m)++b2 L.iT (rI m.bA))++hB L.bm L.cM L.dB m.d)):al H (Γ++dQ L m):=by rw[List.append_assoc,List.append_assoc]at h;exact h
def bt.hF(m:bt)(part:Int):Prop:=0<=part/\part<m.jF.length
instance:Decidable (m.hF part):=by unfold bt.hF;infer_instance
def bt.rJ(m:bt)(part:Int):Nat×Nat:=m.jF.getD part.toNat (0,0)
def bt.size(m:bt)(part:Int):Nat:=if m.hF part then(m.rJ part).2 else 0
theorem bt.acF(h:m.hF part):m.rJ part∈m.jF:=by
 unfold bt.rJ;have:part.toNat<m.jF.length:=by have:=h.1;have:=h.2;omega
 simp_all
theorem QT(h:m.hF part):(uu m.jF)[part.toNat*2+0]?=some (int (m.rJ part).1)/\(uu m.jF)[part.toNat*2+1]?=some (int (m.rJ part).2):=by
 have aq:part.toNat<m.jF.length:=by have:=h.1;have:=h.2;omega
 have e:m.rJ part=m.jF[part.toNat]:=by simp_all[bt.rJ]
 unfold uu;rw[QH (n:=2) (fun _ _=>rfl) aq (by omega),QH (n:=2) (fun _ _=>rfl) aq (by omega),e]
 simp_all
theorem acG(hO:al H (Γ++dQ L m))(ag:aa (.bool (decide (m.hF part))) H):wCall P 149 [ak L.cV 0,int part] H aa:=by
 apply aqc;unfold aaq
 repeat refine bH ?_
 refine bT (fun h=>?_) (fun h=>?_)
 ·repeat refine bH ?_
  refine aZ hO (Γ.length+0) (aC rfl) rfl ?_
  repeat (first|refine bH ?_|refine sr ?_)
  rw[decide_eq_decide.2 (show part<(m.jF.length:Int)↔m.hF part from⟨fun af=>⟨h,af⟩,fun af=>af.2⟩)];exact ag
 ·repeat refine bH ?_
  rw[decide_eq_false (show¬m.hF part from fun af=>h af.1)]at ag;exact ag
theorem acH(hO:al H (Γ++dQ L m))(ag:aa (int (m.size part)) H):wCall P 72 [ak L.cV 0,int part] H aa:=by
 apply ape;unfold Zi;refine acG hO ?_;unfold bt.size at ag;refine ai jt ?_;by_cases h:m.hF part
 ·rw[if_pos h]at ag;rw[decide_eq_true h];refine eX rfl ?_
  repeat refine bH ?_
  refine aZ hO (Γ.length+0) (aC rfl) rfl ?_;refine ai (ky h.1 h.2) ?_
  repeat refine bH ?_
  rw[Nat.zero_add];refine aZ hO (Γ.length+1) (aC rfl) (QT h).2 ?_;exact ag
 ·rw[if_neg h]at ag;rw[decide_eq_false h];exact fU rfl ag
def bt.iX(m:bt)(part bh:Int):Int×Int:=if¬m.hF part then(0,71)else if bh<0\/(m.rJ part).2<=bh then(0,61)else((m.rJ part).1+bh,0)
theorem QU(ok:m.b1)(hO:al H (Γ++dQ L m))(ag:aa (.tuple [int (m.iX part bh).1,int (m.iX part bh).2].toArray) H):wCall P 117 [ak L.cV 0,int part,int bh] H aa:=by
 apply apD;unfold ZH;refine acG hO ?_;unfold bt.iX at ag;refine ai jt ?_;by_cases h:m.hF part
 ·rw[if_neg (fun a7=>a7 h)]at ag;rw[decide_eq_true h];refine eX rfl ?_;refine gb (fun aG ab=>aG=[ak L.cV 0,int part,int bh,.bool (decide (bh<0\/(m.rJ part).2<=bh))]/\ab=H) ?_ ?_
  ·repeat refine bH ?_
   refine bT (fun ad=>?_) (fun ad=>?_)
   ·repeat refine bH ?_
    exact⟨by simp_all,rfl⟩
   ·repeat refine bH ?_
    refine aZ hO (Γ.length+0) (aC rfl) rfl ?_;refine ai (ky h.1 h.2) ?_
    repeat refine bH ?_
    rw[Nat.zero_add];refine aZ hO (Γ.length+1) (aC rfl) (QT h).2 ?_
    repeat refine bH ?_
    exact⟨by grind,rfl⟩
  rintro aG ab ⟨rfl,rfl⟩
  try simp only[cR,cS]
  refine bT (fun ad=>?_) (fun ad=>?_)
  ·rw[if_pos ad]at ag;exact ag
  ·rw[if_neg ad]at ag
   repeat refine bH ?_
   refine aZ hO (Γ.length+0) (aC rfl) rfl ?_;refine ai (ky h.1 h.2) ?_
   repeat refine bH ?_
   rw[Nat.zero_add];refine aZ hO (Γ.length+1) (aC rfl) (QT h).1 ?_;have:=ok.s _ (bt.acF h);have:=ok.d.n
   repeat refine bH ?_
   exact ag
 ·rw[if_pos h]at ag;rw[decide_eq_false h];exact fU rfl ag
def bt.gA(m:bt)(part bh:Int):List Int×Int:=if(m.iX part bh).2≠0 then(sx,(m.iX part bh).2)else m.d.gA (m.iX part bh).1
theorem bO.yb{d:bO}(ok:d.b1){a:Int}:(d.gA a).1.length=64:=by
 unfold bO.gA;by_cases h:d.hF a
 ·rw[if_pos h];exact(bO.rH ok.c h).s
 ·rw[if_neg h];rfl
theorem bt.yb(ok:m.b1):(m.gA part bh).1.length=64:=by
 unfold bt.gA;split
 ·rfl
 ·exact bO.yb ok.d
theorem acI(ok:m.b1)(hO:al H (Γ++dQ L m))(ag:∀ab,al ab (Γ++dQ L m)->aa (.tuple [oK (m.gA part bh).1,int (m.gA part bh).2].toArray) ab):wCall P 73 [ak L.cV 0,int part,int bh] H aa:=by
 apply apf;unfold Zj;rw[BF];refine dT hO ?_;clear hO;intro gP H hO
 replace hO:=hO.nR
 have zz:(Γ++[(gP,(⟨bj sx,true⟩:az))])[Γ.length+0]?=some (gP,⟨bj sx,true⟩):=aC rfl;refine QU ok hO ?_;refine ai km ?_;refine ai kn ?_;refine ai jh ?_;unfold bt.gA at ag;refine bT (fun h=>?_) (fun h=>?_)
 ·rw[if_pos h]at ag;refine ai QI ?_;refine gl hO (Γ.length+0) (aS zz) (by rfl) (by rfl) (lT _) ?_;clear hO;intro H hO;rw[List.set_append_left _ _ (by simp),Go.Ab.cy]at hO;refine hi hO (Γ.length+0) (aS (aC rfl)) (by rfl) (by omega) ?_;exact ag _ (al.cf hO)
 ·rw[if_neg h]at ag
  repeat refine bH ?_
  refine aZ hO ((Γ++[(gP,(⟨bj sx,true⟩:az))]).length+0) (aC rfl) rfl ?_;refine ash ok.d.c (dQ.GM hO) ?_;clear hO;intro H hO
  replace hO:=dQ.QS hO
  refine ai km ?_;refine ai kn ?_;have aD:=bO.yb ok.d (a:=(m.iX part bh).1);refine gl hO (Γ.length+0) (aS zz) (by rfl) (by simp_all) (lT _) ?_;clear hO;intro H hO;rw[List.set_append_left _ _ (by simp),Go.Ab.cy]at hO;refine hi hO (Γ.length+0) (aS (aC rfl)) (by simp_all) (by omega) ?_;exact ag _ (al.cf hO)
def bt.pM(m:bt)(o:Op)(e:Int):bt:=if e=0 then {m with bA:=m.bA++[{o with dW:=m.dW}]}else m
theorem asM(o:Op)(H:au):(eY P 80 1).f [(0,agg (kh o))] H=some (aF H.next 0 1 9,H.push (kh o)):=by rfl
theorem acJ(a b c:Int):(di P 86).f [(0,int a),(1,int b),(2,int c)]=some (agg (kh ⟨a,b,c,0⟩)):=by rfl
theorem asN(l:List Op)(o:Op):rI l++kh o=rI (l++[o]):=by simp[rI]
theorem acK{o:Op}(aw:m.bA.length<=1000000000)(hO:al H (Γ++dQ L m))(hv:lk L m)
  (ag:∀ab cv,L.Eq cv->al ab (Γ++dQ cv (m.pM o e))->lk cv (m.pM o e)->aa (int e) ab):wCall P 118 [ak L.cV 0,agg (kh o),int e] H aa:=by
 apply apE;unfold ZI;refine dT hO ?_;clear hO;intro cY H hO
 replace hO:=hO.nR
 have i4:(Γ++[(cY,(⟨kh o,true⟩:az))])[Γ.length+0]?=some (cY,⟨kh o,true⟩):=aC rfl
 replace hO:al H ((Γ++[(cY,⟨kh o,true⟩)])++dQ L m):=hO
 refine ai fz ?_;unfold bt.pM at ag;refine bT (fun h=>?_) (fun h=>?_)
 ·rw[if_pos h]at ag
  repeat refine bH ?_
  refine aZ hO ((Γ++[(cY,(⟨kh o,true⟩:az))]).length+0) (aC rfl) rfl ?_
  repeat refine bH ?_
  refine fQ hO (Γ.length+0) (aS i4) rfl (show 3<4 by omega) (show _=kh {o with dW:=m.dW}from rfl) ?_;clear hO;intro H hO;rw[List.set_append_left _ _ (by simp),Go.Ab.cy]at hO
  replace hO:al H ((Γ++[(cY,⟨kh {o with dW:=m.dW},true⟩)])++dQ L m):=hO
  clear i4;have i4:(Γ++[(cY,(⟨kh {o with dW:=m.dW},true⟩:az))])[Γ.length+0]?=some (cY,⟨kh {o with dW:=m.dW},true⟩):=aC rfl;have eC:∀ {H:au} {b8:List (Nat×az)},al H ((Γ++[(cY,⟨kh {o with dW:=m.dW},true⟩)])++b8)->al H (Γ++b8):=fun h=>al.cf h
  generalize Γ++[(cY,(⟨kh {o with dW:=m.dW},true⟩:az))]=hz at hO i4 eC
  repeat refine bH ?_
  refine aZ hO (hz.length+0) (aC rfl) rfl ?_;refine hi hO (Γ.length+0) (aS i4) rfl (by omega) ?_;have iR:al H (((hz++wU L m)++hB L.bm L.cM L.dB m.d)++b2 L.iT (rI m.bA)):=(dQ.GM hO).nR;refine ih iR (asM _ _) ?_;clear hO iR;intro q H hO;refine Ej hO hv.o rfl (by omega) rfl (by omega) (by omega) ?_;clear hO;intro sy H hO wV
  repeat refine bH ?_
  obtain⟨dm,e8,db,bn⟩:∃dm e8 db,sy=.slice dm e8 db:=by rcases wV with⟨_,h,_⟩|⟨p,rfl|rfl,_⟩;omega;exact⟨_,_,_,rfl⟩;simp_all
  refine fQ hO (hz.length+0) (aS (aS (aC rfl))) (by rw[bn];rfl) (show 3<4 by omega) rfl ?_;clear hO;intro H hO;rw[List.set_append_left _ _ (by simp),List.set_append_left _ _ (by simp),Go.Ab.cy]at hO;rw[asN]at hO wV;have ax:al H (((hz++wU ⟨L.cV,L.bm,L.cM,L.bz,L.dB,sy⟩ m)++hB L.bm L.cM L.dB m.d)++b2 sy (rI (m.bA++[{o with dW:=m.dW}]))):=hO;refine ag H ⟨L.cV,L.bm,L.cM,L.bz,L.dB,sy⟩ ⟨rfl,rfl,rfl,rfl⟩ (eC (dQ.QS (m:={m with bA:=m.bA++[{o with dW:=m.dW}]}) ax.nR)) ⟨hv.d,?_⟩;show jN 4 sy (m.bA++[_]).length _;rw[List.length_append];exact wV
 ·rw[if_neg h]at ag;exact ag _ L ⟨rfl,rfl,rfl,rfl⟩ (al.cf hO) hv
end J
namespace J
open Go Go.Ab
variable[cu:b0]
variable{H:au}{Γ:List (Nat×az)}{aa:VH}{x:Value}{e:Int}
variable{L:lG}{m:bt}{part bh:Int}{s:List Int}
def bt.fb(m:bt)(part bh:Int):bt×Int:=if(m.iX part bh).2≠0 then(m,(m.iX part bh).2)else(({m with d:=(m.d.fb (m.iX part bh).1).1}:bt).pM ⟨1,part,bh,0⟩ (m.d.fb (m.iX part bh).1).2,(m.d.fb (m.iX part bh).1).2)
def bt.eS(m:bt)(part bh:Int)(s:List Int):bt×Int:=if(m.iX part bh).2≠0 then(m,(m.iX part bh).2)else(({m with d:=(m.d.eS (m.iX part bh).1 s).1}:bt).pM ⟨2,part,bh,0⟩ (m.d.eS (m.iX part bh).1 s).2,(m.d.eS (m.iX part bh).1 s).2)
def bt.iS(m:bt):bt×Int:=({m with d:=m.d.iS.1},m.d.iS.2)
theorem bO.asO{d:bO}{a:Int}:(d.fb a).1.cells.length=d.cells.length:=by
 unfold bO.fb;split
 ·rfl
 split
 ·rfl
 split
 ·rfl
 split
 ·rfl
 show((d.step.cells.set _ _).set _ _).length=_;rw[List.length_set,List.length_set];rfl
theorem bO.asP{d:bO}{a:Int}:(d.eS a s).1.cells.length=d.cells.length:=by
 unfold bO.eS;split
 ·rfl
 split
 ·rfl
 split
 ·rfl
 split
 ·rfl
 show(d.step.cells.set _ _).length=_;rw[List.length_set];rfl
theorem bO.asQ{d:bO}:d.iS.1.cells.length=d.cells.length:=by
 unfold bO.iS;split
 ·rfl
 split
 ·rfl
 exact BG _ _
theorem bO.asR{d:bO}{a:Int}:(d.fb a).1.done.length<=d.done.length+1:=by
 unfold bO.fb;split
 ·simp_all
 split
 ·simp_all
 split
 ·simp_all
 split
 ·exact Nat.le_succ _
 show(d.done++[_]).length<=_;simp
theorem bO.asS{d:bO}{a:Int}:(d.eS a s).1.done.length<=d.done.length+1:=by
 unfold bO.eS;split
 ·simp_all
 split
 ·simp_all
 split
 ·simp_all
 split
 ·exact Nat.le_succ _
 show(d.done++[_]).length<=_;simp
theorem bO.asT{d:bO}:d.iS.1.done.length<=d.done.length:=by
 unfold bO.iS;split
 ·simp_all
 split
 ·exact Nat.le_refl _
 simp_all
theorem bt.yc{o:Op}:(m.pM o e).d=m.d:=by grind[bt.pM]
theorem bt.BH{o:Op}:(m.pM o e).jF=m.jF:=by grind[bt.pM]
theorem bt.acL{o:Op}:(m.pM o e).bA.length<=m.bA.length+1:=by unfold bt.pM;grind
theorem bt.asU:(m.eS part bh s).1.jF=m.jF:=by grind[bt.eS,bt.BH]
theorem bt.acM{o:Op}(ok:m.b1):(m.pM o e).b1:=⟨by rw[bt.yc];exact ok.d,by rw[bt.yc,bt.BH];exact ok.s,by rw[bt.BH];exact ok.n⟩
theorem bt.QN(ok:m.b1):(m.fb part bh).1.b1:=by
 unfold bt.fb;split
 ·exact ok
 ·exact bt.acM ⟨bO.QN ok.d,by rw[bO.asO];exact ok.s,ok.n⟩
theorem bt.QO(ok:m.b1)(aw:s.length=64):(m.eS part bh s).1.b1:=by
 unfold bt.eS;split
 ·exact ok
 ·exact bt.acM ⟨bO.QO ok.d aw,by rw[bO.asP];exact ok.s,ok.n⟩
theorem bt.QR(ok:m.b1):m.iS.1.b1:=⟨bO.QR ok.d,by show∀x∈m.jF,_<=m.d.iS.1.cells.length;rw[bO.asQ];exact ok.s,ok.n⟩
theorem bt.hR.mono{N e0:Nat}(h:m.hR N)(aV:N<=e0):m.hR e0:=⟨Nat.le_trans h.1 aV,Nat.le_trans h.2 aV⟩
theorem bt.asV{N:Nat}(h:m.hR N):(m.fb part bh).1.hR (N+1):=by
 unfold bt.fb;split
 ·exact h.mono (Nat.le_succ _)
 ·refine⟨?_,Nat.le_trans bt.acL (Nat.succ_le_succ h.2)⟩;rw[bt.yc];exact Nat.le_trans bO.asR (Nat.succ_le_succ h.1)
theorem bt.acN{N:Nat}(h:m.hR N):(m.eS part bh s).1.hR (N+1):=by
 unfold bt.eS;split
 ·exact h.mono (Nat.le_succ _)
 ·refine⟨?_,Nat.le_trans bt.acL (Nat.succ_le_succ h.2)⟩;rw[bt.yc];exact Nat.le_trans bO.asS (Nat.succ_le_succ h.1)
theorem bt.acO{N:Nat}(h:m.hR N):m.iS.1.hR N:=⟨Nat.le_trans bO.asT h.1,h.2⟩
theorem lG.Eq.gm:L.Eq L:=⟨rfl,rfl,rfl,rfl⟩
theorem lG.Eq.trans{L cv acP:lG}(h:L.Eq cv)(a7:cv.Eq acP):L.Eq acP:=⟨a7.m.trans h.m,a7.d.trans h.d,a7.c.trans h.c,a7.s.trans h.s⟩
theorem dQ.QV{eE:bO}{lV:Value}(h:al H (((Γ++wU L m)++b2 L.iT (rI m.bA))++hB L.bm L.cM lV eE)):al H (Γ++dQ {L with dB:=lV} {m with d:=eE}):=dQ.QS (L:={L with dB:=lV}) (m:={m with d:=eE}) h
theorem asW(ok:m.b1)(aw:m.hR 1000000)(hO:al H (Γ++dQ L m))(hv:lk L m)
  (ag:∀ab cv,L.Eq cv->al ab (Γ++dQ cv (m.fb part bh).1)->lk cv (m.fb part bh).1->aa (int (m.fb part bh).2) ab):wCall P 238 [ak L.cV 0,int part,int bh] H aa:=by
 apply are;unfold abB;refine QU ok hO ?_;refine ai km ?_;refine ai kn ?_;refine ai jh ?_;unfold bt.fb at ag;refine bT (fun h=>?_) (fun h=>?_)
 ·rw[if_pos h]at ag;exact ag _ L lG.Eq.gm hO hv
 ·rw[if_neg h]at ag;refine ai (acJ _ _ _) ?_
  repeat refine bH ?_
  refine aZ hO (Γ.length+0) (aC rfl) rfl ?_;refine asy ok.d aw.1 (dQ.GM hO) hv.d ?_;clear hO;intro H lV hO AP;refine acK (L:={L with dB:=lV}) (m:={m with d:=(m.d.fb (m.iX part bh).1).1}) (by have:=aw.2;grind) (dQ.QV hO) ⟨AP,hv.o⟩ ?_;clear hO;intro H cv he hO jL;exact ag _ cv ⟨he.m,he.d,he.c,he.s⟩ hO jL
theorem acQ(ok:m.b1)(aD:s.length=64)(aw:m.hR 1000000)(hO:al H (Γ++dQ L m))(hv:lk L m)
  (ag:∀ab cv,L.Eq cv->al ab (Γ++dQ cv (m.eS part bh s).1)->lk cv (m.eS part bh s).1->aa (int (m.eS part bh s).2) ab):wCall P 56 [ak L.cV 0,int part,int bh,oK s] H aa:=by
 apply aoX;unfold Y0;refine dT hO ?_;clear hO;intro dI H hO
 replace hO:=hO.nR
 replace hO:al H ((Γ++[(dI,⟨bj s,true⟩)])++dQ L m):=hO
 have mK:(Γ++[(dI,(⟨bj s,true⟩:az))])[Γ.length+0]?=some (dI,⟨bj s,true⟩):=aC rfl;have eC:∀ {H:au} {b8:List (Nat×az)},al H ((Γ++[(dI,⟨bj s,true⟩)])++b8)->al H (Γ++b8):=fun h=>al.cf h
 generalize Γ++[(dI,(⟨bj s,true⟩:az))]=hz at hO mK eC;refine QU ok hO ?_;refine ai km ?_;refine ai kn ?_;refine ai jh ?_;unfold bt.eS at ag;refine bT (fun h=>?_) (fun h=>?_)
 ·rw[if_pos h]at ag;exact ag _ L lG.Eq.gm (eC hO) hv
 ·rw[if_neg h]at ag;refine ai (acJ _ _ _) ?_
  repeat refine bH ?_
  refine aZ hO (hz.length+0) (aC rfl) rfl ?_;refine hi hO (Γ.length+0) (aS mK) (by simp_all) (by omega) ?_;refine asz ok.d aD aw.1 (dQ.GM hO) hv.d ?_;clear hO;intro H lV hO AP;refine acK (L:={L with dB:=lV}) (m:={m with d:=(m.d.eS (m.iX part bh).1 s).1}) (by have:=aw.2;grind) (dQ.QV hO) ⟨AP,hv.o⟩ ?_;clear hO;intro H cv he hO jL;exact ag _ cv ⟨he.m,he.d,he.c,he.s⟩ (eC hO) jL
theorem acR(ok:m.b1)(aw:m.hR 1000000)(hO:al H (Γ++dQ L m))(hv:lk L m)
  (ag:∀ab cv,L.Eq cv->al ab (Γ++dQ cv m.iS.1)->lk cv m.iS.1->aa (int m.iS.2) ab):wCall P 57 [ak L.cV 0] H aa:=by
 apply aoY;unfold Y1
 repeat refine bH ?_
 refine aZ hO (Γ.length+0) (aC rfl) rfl ?_;refine asF ok.d aw.1 (dQ.GM hO) hv.d ?_;clear hO;intro H lV hO AP;exact ag H {L with dB:=lV} ⟨rfl,rfl,rfl,rfl⟩ (dQ.QV hO) ⟨AP,hv.o⟩
def bt.QW(part:Int):Nat->Nat->bt->bt×Int
 | 0,_,m=>(m,0)
 | n+1,y,m=>if(m.gA part y).1=jd then QW part n (y+1) m else if(m.fb part y).2≠0 then m.fb part y else QW part n (y+1) (m.fb part y).1
def bt.mu(m:bt)(part:Int):bt×Int:=if¬m.hF part then(m,71)else bt.QW part (m.size part) 0 m
end J
namespace J
open Go Go.Ab
variable[cu:b0]
variable{H:au}{Γ:List (Nat×az)}{aa:VH}{v x:Value}
variable{L:lG}{m:bt}
theorem asX(hO:al H (Γ++dQ L m))(hv:lk L m)
  (ag:∀ab,al ab ((Γ++b2 L.iT (rI m.bA))++dQ {L with iT:=bB} {m with bA:=[]})->lk {L with iT:=bB} {m with bA:=[]}->aa L.iT ab):wCall P 30 [ak L.cV 0] H aa:=by
 apply aoG;unfold YH
 repeat refine bH ?_
 refine aZ hO (Γ.length+0) (aC rfl) rfl ?_
 repeat refine bH ?_
 refine fQ hO (Γ.length+0) (aC rfl) rfl (show 3<4 by omega) rfl ?_;clear hO;intro H hO;have ax:al H (Γ++(wU {L with iT:=bB} {m with bA:=[]}++(b2 L.iT (rI m.bA)++hB L.bm L.cM L.dB m.d))):=hO.cy;refine ag H ?_ ⟨hv.d,.inl ⟨rfl,rfl,rfl⟩⟩;refine ax.fP ?_;show(Γ++(wU _ _++(b2 L.iT (rI m.bA)++hB L.bm L.cM L.dB m.d))).Perm ((Γ++b2 L.iT (rI m.bA))++(wU _ _++([]++hB L.bm L.cM L.dB m.d)));rw[List.append_assoc,List.nil_append,<- List.append_assoc (wU _ _),<- List.append_assoc (b2 _ _)];exact List.Perm.append_left Γ (List.Perm.append_right _ List.perm_append_comm)
def l8:Nat->List Nat->List (Nat×Nat)
 | _,[]=>[]
 | n,x::l=>(n,x)::l8 (n+x) l
theorem QX:∀(l:List Nat) (n:Nat),(l8 n l).length=l.length
 | [],_=>rfl
 | x::l,n=>by show(l8 (n+x) l).length+1=_;rw[QX l];rfl
theorem acS:∀(l:List Nat) (n y:Nat) (h:y<l.length),(l8 n l).take (y+1)=(l8 n l).take y++[(n+(l.take y).sum,l[y])]
 | x::l,n,0,_=>by simp[l8]
 | x::l,n,y+1,h=>by have:=acS l (n+x) y (by simpa using h);show(n,x)::(l8 (n+x) l).take (y+1)=(n,x)::(l8 (n+x) l).take y++[(n+(x+(l.take y).sum),_)];rw[this,Nat.add_assoc];rfl
theorem asY(bm:Nat):(di P 168).f [(0,ak bm 0)]=some (agg [ak bm 0,bB,int 0,bB]):=by rfl
theorem asZ(a b:Int):(di P 232).f [(0,int a),(1,int b)]=some (agg [int a,int b]):=by rfl
theorem as0(a b:Int)(H:au):(eY P 166 1).f [(0,agg [int a,int b])] H=some (aF H.next 0 1 5,H.push [int a,int b]):=by rfl
theorem QY:∀(l:List Nat) (y:Nat),(l.take y).sum<=l.sum
 | [],y=>by simp
 | x::l,0=>by simp
 | x::l,y+1=>by simp_all[QY]
theorem as1(l:List Nat)(y:Nat)(h:y<l.length):(l.take (y+1)).sum=(l.take y).sum+l[y]:=by grind[List.take_succ_eq_append_getElem]
theorem as2{bm cM q c:Nat}{dB:Value}{d:bO}{iB:List Nat}{QZ:Nat}{b:Bool}(ok:d.b1)(hO:al H (Γ++hB bm cM dB d))(eu:Γ[QZ]?=some (q,⟨iB.map fun(n:Nat)=>int n,b⟩))(aR:0<iB.length)(pd:iB.length<=16)
  (ad:∀n∈iB,1<=n) (aw:iB.sum<=d.cells.length) (hv:wT dB d)
  (ag:∀ab cV bz,al ab (Γ++dQ ⟨cV,bm,cM,bz,dB,bB⟩ ⟨d,l8 0 iB,0,[]⟩)->lk ⟨cV,bm,cM,bz,dB,bB⟩ ⟨d,l8 0 iB,0,[]⟩->aa (.tuple [ak cV 0,int 0].toArray) ab):wCall P 54 [ak bm 0,aF q 0 iB.length c] H aa:=by
 apply aoU;unfold YW;refine gb (fun aG ab=>aG=[ak bm 0,aF q 0 iB.length c,.pointer none,int 0,.bool false]/\ab=H) ?_ ?_
 ·repeat (first|refine bH ?_|refine sr ?_|refine vC ?_)
  rw[decide_eq_false (by omega)];exact⟨rfl,rfl⟩
 rintro aG ab ⟨rfl,rfl⟩
 try simp only[cR,cS]
 refine eX rfl ?_;refine ai (asY bm) ?_;refine dT hO ?_;clear hO;intro cV H hO
 replace hO:al H (((Γ++hB bm cM dB d)++[(cV,⟨[ak bm 0,bB,int 0,bB],true⟩)])++b2 bB (uu [])):=by show al H (((Γ++hB bm cM dB d)++[(cV,⟨[ak bm 0,bB,int 0,bB],true⟩)])++[]);rw[List.append_nil];exact hO
 repeat refine sr ?_
 have wW:=ok.n;have hlen:=QX iB 0;refine aoT (fun k aG ab=>∃(y:Nat) (bV:Value),y<=iB.length/\k=iB.length-y/\aG=[ak bm 0,.pointer none,int 0,ak cV 0,int ((iB.take y).sum:Nat),aF q 0 iB.length c,int iB.length,int y]/\al ab (((Γ++hB bm cM dB d)++[(cV,⟨[ak bm 0,bV,int 0,bB],true⟩)])++b2 bV (uu ((l8 0 iB).take y)))/\jN 2 bV y (uu ((l8 0 iB).take y))/\(0<y->∃bz,bV=aF bz 0 y 4)) _ _ ?_ iB.length _ _ ⟨0,bB,by omega,rfl,rfl,hO,.inl ⟨rfl,rfl,rfl⟩,fun h=>absurd h (by omega)⟩;clear hO;rintro k aG H ⟨y,bV,ba,rfl,rfl,hO,tZ,uj⟩;unfold YV
 try simp only[cR,cS]
 have fT:=QY iB y
 repeat refine bH ?_
 refine bT (fun h=>?_) (fun h=>?_)
 ·have lU:y<iB.length:=by omega
  have aV:=ad _ (List.getElem_mem lU);have aB8:=QY iB (y+1);have sz:=as1 iB y lU;refine ai (ky (by omega) (by omega)) ?_;refine aZ hO QZ (aS (aS (aS eu))) (v:=int iB[y]) (by simp_all) ?_;refine gb (fun aG ab=>aG=[ak bm 0,.pointer none,int 0,ak cV 0,int ((iB.take y).sum:Nat),int iB[y],aF q 0 iB.length c,int iB.length,int y,.bool false]/\ab=H) ?_ ?_
  ·refine ai gj ?_;rw[decide_eq_false (show¬((iB[y]:Nat):Int)<1 by omega)];refine eX rfl ?_;refine asg hO (aS (aS (aC (k:=0) rfl))) ?_
   repeat refine bH ?_
   rw[decide_eq_false (show¬((d.cells.length:Int)-((iB.take y).sum:Nat))<((iB[y]:Nat):Int) by omega)];exact⟨rfl,rfl⟩
  rintro aG ab ⟨rfl,rfl⟩
  try simp only[cR,cS]
  refine eX rfl ?_
  repeat refine bH ?_
  refine aZ hO ((Γ++hB bm cM dB d).length+0) (aS (aC rfl)) rfl ?_;refine ai (asZ _ _) ?_;refine ih hO (as0 _ _ _) ?_;clear hO;intro ca H hO;refine acu hO tZ rfl (by omega) rfl (by omega) (by omega) ?_;clear hO;intro bz H hO acT;have hQ:uu ((l8 0 iB).take y)++[int ((iB.take y).sum:Nat),int iB[y]]=uu ((l8 0 iB).take (y+1)):=by simp_all[acS,uu]
  rw[hQ]at hO acT
  repeat refine bH ?_
  refine fQ hO ((Γ++hB bm cM dB d).length+0) (aS (aC rfl)) rfl (show 1<4 by omega) rfl ?_;clear hO;intro H hO;rw[List.set_append_left _ _ (by simp),Go.Ab.cy]at hO
  repeat refine bH ?_
  refine⟨_,by omega,y+1,_,by omega,rfl,?_,hO,acT,fun _=>⟨bz,rfl⟩⟩
  simp_all
 ·have lW:y=iB.length:=by omega
  subst lW;rw[List.take_of_length_le (by rw[hlen];exact Nat.le_refl _)]at hO tZ;obtain⟨bz,rfl⟩:=uj aR
  repeat refine Bm ?_
  refine ag H cV bz ?_ ⟨hv,.inl ⟨rfl,rfl,rfl⟩⟩;have ax:al H (((Γ++hB bm cM dB d)++[(cV,⟨[ak bm 0,aF bz 0 iB.length 4,int 0,bB],true⟩)])++[(bz,⟨uu (l8 0 iB),true⟩)]):=hO;rw[List.append_assoc]at ax;have aO:=ax.nR;rw[List.append_assoc]at aO;have rv:C5 ⟨cV,bm,cM,bz,dB,bB⟩ ⟨d,l8 0 iB,0,[]⟩=[ak bm 0,aF bz 0 iB.length 4,int 0,bB]:=by simp_all[C5]
  show al H (Γ++([(cV,⟨C5 ⟨cV,bm,cM,bz,dB,bB⟩ ⟨d,l8 0 iB,0,[]⟩,true⟩),(bz,⟨uu (l8 0 iB),true⟩)]++([]++hB bm cM dB d)));rw[rv,List.nil_append];exact aO
end J
namespace J
open Go Go.Ab
variable[cu:b0]
def ni(x n:Nat):Nat:=x/2^n|||x*2^(32-n)%4294967296
def pe(x:Nat)(l:List Nat):Nat:=l.foldl (fun o n=>o ^^^ ni x n) 0
def zD(b:List Int)(t:Nat):Nat:=16777216*(b.getD (4*t) 0).toNat+65536*(b.getD (4*t+1) 0).toNat+256*(b.getD (4*t+2) 0).toNat+(b.getD (4*t+3) 0).toNat
def tq(b:List Int)(w:List Nat)(t:Nat):Nat:=if t<16 then zD b t else
 (w.getD (t-16) 0+(pe (w.getD (t-15) 0) [7,18] ^^^ w.getD (t-15) 0/8)+w.getD (t-7) 0+(pe (w.getD (t-2) 0) [17,19] ^^^ w.getD (t-2) 0/1024))%4294967296
def h2(b:List Int):Nat->List Nat
 | 0=>[]
 | t+1=>h2 b t++[tq b (h2 b t) t]
def zE(e f g:Nat):Nat:=(e&&&f) ^^^ ((4294967295-e)&&&g)
def BI(a b c:Nat):Nat:=((a&&&b) ^^^ (a&&&c)) ^^^ (b&&&c)
structure W8 where
 a:Nat
 b:Nat
 c:Nat
 d:Nat
 e:Nat
 f:Nat
 g:Nat
 h:Nat
structure W8.b1 (x:W8):Prop where
 a:x.a<4294967296
 b:x.b<4294967296
 c:x.c<4294967296
 d:x.d<4294967296
 e:x.e<4294967296
 f:x.f<4294967296
 g:x.g<4294967296
 h:x.h<4294967296
def W8.l(x:W8):List Nat:=[x.a,x.b,x.c,x.d,x.e,x.f,x.g,x.h]
def yd(x:W8)(k w:Nat):Nat:=(x.h+pe x.e [6,11,25]+zE x.e x.f x.g+k+w)%4294967296
def K2(x:W8):Nat:=(pe x.a [2,13,22]+BI x.a x.b x.c)%4294967296
def GN(x:W8)(k w:Nat):W8:=⟨(yd x k w+K2 x)%4294967296,x.a,x.b,x.c,(x.d+yd x k w)%4294967296,x.e,x.f,x.g⟩
def kc:List Nat:=[0x428a2f98,0x71374491,0xb5c0fbcf,0xe9b5dba5,0x3956c25b,0x59f111f1,0x923f82a4,0xab1c5ed5,0xd807aa98,0x12835b01,0x243185be,0x550c7dc3,0x72be5d74,0x80deb1fe,0x9bdc06a7,0xc19bf174,
 0xe49b69c1,0xefbe4786,0x0fc19dc6,0x240ca1cc,0x2de92c6f,0x4a7484aa,0x5cb0a9dc,0x76f988da,0x983e5152,0xa831c66d,0xb00327c8,0xbf597fc7,0xc6e00bf3,0xd5a79147,0x06ca6351,0x14292967,
 0x27b70a85,0x2e1b2138,0x4d2c6dfc,0x53380d13,0x650a7354,0x766a0abb,0x81c2c92e,0x92722c85,0xa2bfe8a1,0xa81a664b,0xc24b8b70,0xc76c51a3,0xd192e819,0xd6990624,0xf40e3585,0x106aa070,
 0x19a4c116,0x1e376c08,0x2748774c,0x34b0bcb5,0x391c0cb3,0x4ed8aa4a,0x5b9cca4f,0x682e6ff3,0x748f82ee,0x78a5636f,0x84c87814,0x8cc70208,0x90befffa,0xa4506ceb,0xbef9a3f7,0xc67178f2]
def rK(w:List Nat)(x:W8):Nat->W8
 | 0=>x
 | t+1=>GN (rK w x t) (kc.getD t 0) (w.getD t 0)
def Em(x y:W8):W8:=⟨(x.a+y.a)%4294967296,(x.b+y.b)%4294967296,(x.c+y.c)%4294967296,(x.d+y.d)%4294967296,(x.e+y.e)%4294967296,(x.f+y.f)%4294967296,(x.g+y.g)%4294967296,(x.h+y.h)%4294967296⟩
def BJ(s:W8)(b:List Int):W8:=Em s (rK (h2 b 64) s 64)
def BK:W8:=⟨0x6a09e667,0xbb67ae85,0x3c6ef372,0xa54ff53a,0x510e527f,0x9b05688c,0x1f83d9ab,0x5be0cd19⟩
def pN(aj:List Int):Nat->W8
 | 0=>BK
 | n+1=>BJ (pN aj n) ((aj.drop (64*n)).take 64)
def mM(aj:List Int):W8:=pN aj (aj.length/64)
def BL(aj:List Int):List Int:=aj.drop (64*(aj.length/64))
def tr(n:Nat):List Int:=(List.range 8).map fun i=>((n/2^(56-8*i)%256:Nat):Int)
def nu(n:Nat):Nat:=(119-n%64)%64
def vK(aj:List Int):List Int:=aj++[128]++List.replicate (nu aj.length) 0++tr (8*aj.length)
def zF(w:Nat):List Int:=[((w/16777216%256:Nat):Int),((w/65536%256:Nat):Int),((w/256%256:Nat):Int),((w%256:Nat):Int)]
def nS(s:W8):List Int:=s.l.flatMap zF
def gB(aj:List Int):List Int:=nS (mM (vK aj))
theorem uv{x n:Nat}(h:x<4294967296):ni x n<4294967296:=Nat.or_lt_two_pow (n:=32) (Nat.lt_of_le_of_lt (Nat.div_le_self _ _) h) (Nat.mod_lt _ (by omega))
theorem acU{x:Nat}(h:x<4294967296):∀(l:List Nat) (o:Nat),o<4294967296->l.foldl (fun o n=>o ^^^ ni x n) o<4294967296
 | [],_,bJ=>bJ
 | n::l,o,bJ=>acU h l _ (Nat.xor_lt_two_pow (n:=32) bJ (uv h))
theorem GO{x:Nat}{l:List Nat}(h:x<4294967296):pe x l<4294967296:=acU h l 0 (by omega)
theorem as3{e f g:Nat}(he:e<4294967296)(hf:f<4294967296)(hg:g<4294967296):zE e f g<4294967296:=
 Nat.xor_lt_two_pow (n:=32) (Nat.and_lt_two_pow (n:=32) _ hf) (Nat.and_lt_two_pow (n:=32) _ hg)
theorem as4{a b c:Nat}(an:b<4294967296)(aA:c<4294967296):BI a b c<4294967296:=
 Nat.xor_lt_two_pow (n:=32) (Nat.xor_lt_two_pow (n:=32) (Nat.and_lt_two_pow (n:=32) _ an) (Nat.and_lt_two_pow (n:=32) _ aA)) (Nat.and_lt_two_pow (n:=32) _ aA)
theorem as5{x:W8}{k w:Nat}(h:x.b1):(GN x k w).b1:=⟨Nat.mod_lt _ (by omega),h.a,h.b,h.c,Nat.mod_lt _ (by omega),h.e,h.f,h.g⟩
theorem GP{x:W8}{w:List Nat}(h:x.b1):∀t,(rK w x t).b1
 | 0=>h
 | t+1=>as5 (GP h t)
theorem as6{x y:W8}:(Em x y).b1:=⟨Nat.mod_lt _ (by omega),Nat.mod_lt _ (by omega),Nat.mod_lt _ (by omega),Nat.mod_lt _ (by omega),Nat.mod_lt _ (by omega),Nat.mod_lt _ (by omega),Nat.mod_lt _ (by omega),Nat.mod_lt _ (by omega)⟩
theorem as7:BK.b1:=⟨by decide,by decide,by decide,by decide,by decide,by decide,by decide,by decide⟩
theorem GQ{aj:List Int}:∀n,(pN aj n).b1
 | 0=>as7
 | n+1=>as6
theorem GR{b:List Int}:∀t,(h2 b t).length=t
 | 0=>rfl
 | t+1=>by show(h2 b t++[_]).length=t+1;rw[List.length_append,GR t];rfl
theorem wX{b:List Int}(h:∀x∈b,0<=x/\x<=255)(i:Nat):(b.getD i 0).toNat<256:=by grind[List.getElem_mem]
theorem as8{b:List Int}(h:∀x∈b,0<=x/\x<=255)(t:Nat):zD b t<4294967296:=by grind[wX,zD]
theorem as9{b:List Int}{w:List Nat}(h:∀x∈b,0<=x/\x<=255)(t:Nat):tq b w t<4294967296:=by grind[tq,as8]
theorem GS{b:List Int}(h:∀x∈b,0<=x/\x<=255):∀t,∀x∈h2 b t,x<4294967296
 | 0,x,ao=>by cases ao
 | t+1,x,ao=>by
  rcases List.mem_append.1 (show x∈h2 b t++[tq b (h2 b t) t]from ao)with ao|ao
  ·exact GS h t x ao
  simp_all[as9]
theorem BM{w:List Nat}(h:∀x∈w,x<4294967296)(i:Nat):w.getD i 0<4294967296:=by grind[List.getElem_mem]
theorem acV{aj bg:List Int}:∀n,64*n<=aj.length->pN (aj++bg) n=pN aj n
 | 0,_=>rfl
 | n+1,h=>by show BJ (pN (aj++bg) n) (((aj++bg).drop (64*n)).take 64)=BJ (pN aj n) ((aj.drop (64*n)).take 64);rw[acV n (by omega),List.drop_append_of_le_length (by omega),List.take_append_of_le_length (by rw[List.length_drop];omega)]
theorem Q0{aj:List Int}:(BL aj).length=aj.length%64:=by grind[BL]
theorem K3{n:Nat}:(tr n).length=8:=by rfl
theorem ata{aj:List Int}:(vK aj).length%64=0:=by grind[vK,K3,nu]
theorem atb{a b c d:Nat}(br:a<256)(an:b<256)(aA:c<256)(aJ:d<256):((a*2^24%4294967296|||b*2^16%4294967296)|||c*2^8%4294967296)|||d=16777216*a+65536*b+256*c+d:=by
 have ad:∀ {x k:Nat},x<2^(32-k)->k<=32->x*2^k%4294967296=2^k*x:=by
  intro x k ao ag;rw[Nat.mul_comm];refine Nat.mod_eq_of_lt ?_;have:2^k*x<2^k*2^(32-k):=Nat.mul_lt_mul_of_pos_left ao (Nat.two_pow_pos k)
  rwa [<- Nat.pow_add,show k+(32-k)=32 from Nat.add_sub_cancel' ag]at this
 rw[ad (k:=24) (Nat.lt_of_lt_of_le br (by decide)) (by decide),ad (k:=16) (Nat.lt_of_lt_of_le an (by decide)) (by decide),ad (k:=8) (Nat.lt_of_lt_of_le aA (by decide)) (by decide)];rw[<- Nat.two_pow_add_eq_or_of_lt (i:=24) (show 2^16*b<2^24 from Nat.lt_of_lt_of_le (Nat.mul_lt_mul_of_pos_left an (by decide)) (by decide))];have i6:2^24*a+2^16*b=2^16*(2^8*a+b):=by omega
 rw[i6,<- Nat.two_pow_add_eq_or_of_lt (i:=16) (show 2^8*c<2^16 from Nat.lt_of_lt_of_le (Nat.mul_lt_mul_of_pos_left aA (by decide)) (by decide))];have hQ:2^16*(2^8*a+b)+2^8*c=2^8*(2^8*(2^8*a+b)+c):=by omega
 rw[hQ,<- Nat.two_pow_add_eq_or_of_lt (i:=8) (Nat.lt_of_lt_of_le aJ (by decide))]
end J
namespace J
open Go Go.Ab
variable[cu:b0]
variable{H:au}{Γ b8:List (Nat×az)}{aa:VH}{v w x:Value}{b:List Int}{j p:Nat}{e:Int}
abbrev u32(n:Nat):Value:=bS .u32 n
theorem ts{p o eZ aq:Nat}(h:p<eZ):mH (cd [ak p o]) eZ aq:=by
 show yJ [p] eZ aq=true
 simp_all[yJ,ki]
theorem atc{n:Int}(h:-9223372036854775808<=n)(aX:n<0):iY .u64 n=((18446744073709551616-n.natAbs:Nat):Int):=by obtain⟨m,rfl⟩:∃m:Nat,n=Int.negSucc m:=⟨n.natAbs-1,by omega⟩;show((18446744073709551616-1-m%18446744073709551616:Nat):Int)=_;omega
theorem atd{a n:Nat}(br:a<4294967296)(aX:0<n)(F2:n<32)(ag:aa (u32 (ni a n)) H):wCall P 282 [u32 a,int (-(n:Int))] H aa:=by
 apply arS;unfold aci;refine cH (v:=bS .u64 (18446744073709551616-n)) (ab:=H) (by
  show some (Value.int .u64 (iY .u64 (-(n:Int))),H)=_
  grind[atc]) ?_
 refine ai (v:=bS .u64 (32-n)) (by
  rw[show(Value.int .u64 31)=bS .u64 31 from rfl,vA rfl (show 18446744073709551616-n<gu .u64 from(show _<18446744073709551616 by omega)) (by decide)]
  congr 2
  have:(18446744073709551616-n)&&&31=(18446744073709551616-n)%32:=Nat.and_two_pow_sub_one_eq_mod _ 5;omega) ?_
 refine ai (DI (k:=.u32) rfl (show 32-n<=32 by omega)) ?_;refine ai (v:=bS .u64 n) (by
  rw[show(Value.int .u64 32)=bS .u64 32 from rfl,Pc rfl (by omega) (by decide)]
  grind) ?_
 refine ai (xV (k:=.u32) rfl (show n<=32 by omega)) (ai (Bk (k:=.u32) rfl (show a*2^(32-n)%gu .u32<gu .u32 from Nat.mod_lt _ (by decide)) (show a/2^n<4294967296 from Nat.lt_of_le_of_lt (Nat.div_le_self _ _) br)) ?_);rw[Nat.or_comm];exact ag
theorem K4{a:Nat}{l:List Nat}{q c j:Nat}{wr:Bool}(br:a<4294967296)(aD:∀n∈l,0<n/\n<32)(aX:l.length<=1000)(hO:al H Γ)(bp:Γ[j]?=some (q,(⟨l.map fun(n:Nat)=>int n,wr⟩:az)))(ag:aa (u32 (pe a l)) H):
  wCall P 278 [u32 a,aF q 0 l.length c] H aa:=by
 apply arN;unfold aca;refine cH xO (arM (fun k aG ab=>ab=H/\∃y:Nat,y<=l.length/\k=l.length-y/\aG=[u32 a,.int .u32 0,u32 (pe a (l.take y)),aF q 0 l.length c,int l.length,int y]) _ _ ?_ l.length _ _ ⟨rfl,0,by omega,rfl,rfl⟩);rintro k aG ab ⟨rfl,y,ba,rfl,rfl⟩;unfold ab9
 try simp only[cR,cS]
 refine ai gj (bT (fun h=>?_) (fun h=>?_))
 ·have lU:y<l.length:=by omega
  obtain⟨ad,af⟩:=aD _ (List.getElem_mem lU);refine ai (ky (by omega) (by omega)) (aZ hO j bp (v:=int (l[y]:Nat)) (by simp[lU]) ?_);refine ai (v:=int (-(l[y]:Int))) (by
   show some (Value.int .i64 (iY .i64 (0-(l[y]:Int))))=_
   grind[y9]) ?_
  refine atd br ad af (ai (nM (k:=.u32) rfl (GO br) (uv br)) ?_)
  repeat refine bH ?_
  refine⟨_,by omega,(by rfl),y+1,by omega,rfl,?_⟩
  grind[pe,List.take_succ_eq_append_getElem]
 ·have lW:y=l.length:=by omega
  subst lW;rw[List.take_of_length_le (Nat.le_refl _)];exact kW rfl ag
def ji(x:W8):List Value:=x.l.map fun(n:Nat)=>u32 n
theorem acW:dq P 389=List.replicate 8 (u32 0):=by rfl
theorem acX:dq P 424=List.replicate 64 (u32 0):=by rfl
theorem ate(hO:al H Γ)(ag:∀ab p,al ab (Γ++[(p,⟨kc.map fun(n:Nat)=>u32 n,true⟩)])->aa (ak p 0) ab):wCall P 277 [] H aa:=by apply arL;unfold ab7;exact ai (v:=agg (kc.map fun(n:Nat)=>u32 n)) (by rfl) (dT hO fun p ab=>ag ab p)
theorem atf(hO:al H Γ)(ag:∀ab,al ab Γ->aa (agg (ji BK)) ab):wCall P 259 [] H aa:=by
 apply arw;unfold abR;rw[acW];refine dT hO ?_;clear hO;intro p H hO;refine ai (v:=agg (ji BK)) (by rfl) (gl hO (Γ.length+0) (aC rfl) rfl rfl rfl ?_);clear hO;intro H hO
 replace hO:=hO.cy
 exact hi hO (Γ.length+0) (aC rfl) rfl (by omega) (ag _ hO.left)
theorem acY(a b:Int)(H:au):(eY P 48 2).f [(0,.int .i64 a),(1,.int .i64 b)] H=some (aF H.next 0 2 3,H.push [int a,int b]):=by rfl
theorem acZ(a b c:Int)(H:au):(eY P 48 3).f [(0,.int .i64 a),(1,.int .i64 b),(2,.int .i64 c)] H=some (aF H.next 0 3 3,H.push [int a,int b,int c]):=by rfl
def ll(w:List Nat):List Value:=(w.map fun(n:Nat)=>u32 n)++List.replicate (64-w.length) (u32 0)
theorem En{w:List Nat}(h:w.length<=64):(ll w).length=64:=by grind[ll]
theorem GU{w:List Nat}{i:Nat}(h:i<w.length):(ll w)[i]?=some (u32 (w.getD i 0)):=by simp_all[ll,List.getElem?_append_left]
theorem atg{w:List Nat}{n:Nat}(h:w.length<64):(ll w).set w.length (u32 n)=ll (w++[n]):=by
 unfold ll;rw[List.set_append_right _ _ (by simp)];simp;obtain⟨m,aV⟩:∃m,64-w.length=m+1:=⟨63-w.length,by omega⟩
 grind
theorem ac0{w:List Nat}:(ll w).all fH=true:=by simp[ll,fH,ta]
theorem Eo{aa:VH}(hO:al H Γ)(h:cl Γ v b)(an:∀x∈b,0<=x/\x<=255){i:Int}{n:Nat}(aX:i=n)(aq:n<b.length)(ag:aa (bS .u8 (b.getD n 0).toNat) H):ae (iu 1 v (int i)) fun t=>ah (aB t H) aa:=by
 obtain⟨p,o,c,j,ath,rfl,ad,af⟩:=h.at aq;subst aX;refine ai (ky (by omega) (by omega)) ?_;rw[Int.toNat_natCast,Nat.mul_one];refine aZ hO j ad (v:=.int .u8 b[n]) af ?_;have e:b.getD n 0=b[n]:=by simp_all
 rw[e]at ag;have:=an _ (List.getElem_mem aq);have bF:(Value.int .u8 b[n])=bS .u8 (b[n]).toNat:=Gf this.1;rw[bF];exact ag
theorem ati(hO:al H Γ)(hv:cl Γ v b)(an:∀x∈b,0<=x/\x<=255)(aD:b.length=64)(ag:∀ab,al ab Γ->aa (agg (ll (h2 b 64))) ab):wCall P 276 [v] H aa:=by
 apply arK;unfold ab6;rw[acX];refine dT hO ?_;clear hO;intro bI H hO;refine dT hO ?_;clear hO;intro fm H hO;rw[List.append_assoc]at hO
 replace hO:al H (Γ++[(bI,⟨List.replicate 64 (u32 0),true⟩),(fm,⟨ll [],true⟩)]):=hO
 refine arJ (fun k aG ab=>∃(y:Nat) (b8:List (Nat×az)),y<=64/\k=64-y/\aG=[v,ak bI 0,ak fm 0,int y]/\al ab (Γ++([(bI,⟨List.replicate 64 (u32 0),true⟩),(fm,⟨ll (h2 b y),true⟩)]++b8))) _ _ ?_ 64 _ _ ⟨0,[],by omega,rfl,rfl,by rw[List.append_nil];exact hO⟩;clear hO;rintro k aG H ⟨y,b8,ba,rfl,rfl,hO⟩;unfold ab5
 try simp only[cR,cS]
 have vL:=GR (b:=b) y;have nt:∀ {w:List Nat} {R K5:List (Nat×az)},((Γ++([(bI,(⟨List.replicate 64 (u32 0),true⟩:az)),(fm,⟨ll w,true⟩)]++R))++K5)[Γ.length+1]?=some (fm,⟨ll w,true⟩):=aS (aC rfl);have BN:∀ {w:List Nat} {R:List (Nat×az)},(Γ++([(bI,(⟨List.replicate 64 (u32 0),true⟩:az)),(fm,⟨ll w,true⟩)]++R))[Γ.length+1]?=some (fm,⟨ll w,true⟩):=aC rfl;refine ai gj (bT (fun h=>?_) (fun h=>?_))
 ·have eC:∀ {ab:au} {R:List (Nat×az)} {n:Nat},n=tq b (h2 b y) y->al ab ((Γ++([(bI,(⟨List.replicate 64 (u32 0),true⟩:az)),(fm,⟨ll (h2 b y),true⟩)]++R)).set (Γ.length+1) (fm,⟨(ll (h2 b y)).set (0+y*1) (u32 n),true⟩))->al ab (Γ++([(bI,⟨List.replicate 64 (u32 0),true⟩),(fm,⟨ll (h2 b (y+1)),true⟩)]++R)):=by
   intro ab R n aX a7;have af:=a7.cy;subst aX;have e:(ll (h2 b y)).set (0+y*1) (u32 (tq b (h2 b y) y))=ll (h2 b (y+1)):=by grind[atg,h2]
   rw[e]at af;exact af
  refine ai gj (bT (fun pd=>?_) (fun pd=>?_))
  ·have jC:=wX an (4*y);have bX:=wX an (4*y+1);have b7:=wX an (4*y+2);have g3:=wX an (4*y+3);have xt:(ay P .mul 3 true).f (.int .i64 4) (int y)=some (int ((4*y:Nat):Int)):=by grind[zc]
   refine ai xt (Eo hO hv.bo an rfl (by omega) (cH (vB (fh:=.u32) rfl) ?_));rw[show∀n,n<256->n%gu .u32=n from fun n aX=>Nat.mod_eq_of_lt (show n<4294967296 by omega)]<;>try exact jC
   refine ai (DI (k:=.u32) (n:=24) rfl (by decide)) (ai xt (ai (mn (by omega) (by omega)) (Eo hO hv.bo an (n:=4*y+1) (by omega) (by omega) (cH (vB (fh:=.u32) rfl) ?_))));rw[Nat.mod_eq_of_lt (show(b.getD (4*y+1) 0).toNat<gu .u32 from(show _<4294967296 by omega))];refine ai (DI (k:=.u32) (n:=16) rfl (by decide)) (ai (Bk (k:=.u32) rfl (Nat.mod_lt _ (by decide)) (Nat.mod_lt _ (by decide))) (ai xt (ai (mn (by omega) (by omega)) (Eo hO hv.bo an (n:=4*y+2) (by omega) (by omega) (cH (vB (fh:=.u32) rfl) ?_)))));rw[Nat.mod_eq_of_lt (show(b.getD (4*y+2) 0).toNat<gu .u32 from(show _<4294967296 by omega))];refine ai (DI (k:=.u32) (n:=8) rfl (by decide)) (ai (Bk (k:=.u32) rfl (Nat.or_lt_two_pow (n:=32) (Nat.mod_lt _ (by decide)) (Nat.mod_lt _ (by decide))) (Nat.mod_lt _ (by decide))) (ai xt (ai (mn (by omega) (by omega)) (Eo hO hv.bo an (n:=4*y+3) (by omega) (by omega) (cH (vB (fh:=.u32) rfl) ?_)))));rw[Nat.mod_eq_of_lt (show(b.getD (4*y+3) 0).toNat<gu .u32 from(show _<4294967296 by omega))];refine ai (Bk (k:=.u32) rfl (Nat.or_lt_two_pow (n:=32) (Nat.or_lt_two_pow (n:=32) (Nat.mod_lt _ (by decide)) (Nat.mod_lt _ (by decide))) (Nat.mod_lt _ (by decide))) (show _<4294967296 by omega)) (ai (fA (by omega) (by omega)) ?_);rw[Int.toNat_natCast];refine fQ hO (Γ.length+1) BN rfl (by grind[En]) rfl ?_;clear hO;intro H hO
   replace hO:=eC (R:=b8) (by unfold tq zD;rw[if_pos (by omega)];exact atb jC bX b7 g3) hO
   repeat refine bH ?_
   exact⟨_,by omega,y+1,b8,by omega,rfl,rfl,hO⟩
  ·have ea:∀i,(h2 b y).getD i 0<4294967296:=BM (GS an y);have Jb:fm<H.next:=hO.lt (fm,⟨ll (h2 b y),true⟩) (List.mem_of_getElem? BN);have ko:∀ {bw:au} {R:List (Nat×az)} {o:Nat},al bw ((Γ++([(bI,(⟨List.replicate 64 (u32 0),true⟩:az)),(fm,⟨ll (h2 b y),true⟩)]++b8))++R)->ei (dZ bw bw) (cd [ak fm o]):=fun ad=>ha ad (Γ.length+1) nt ad (Γ.length+1) nt ac0
   refine ai (nL (by omega) (by omega)) (ai (fA (by omega) (by omega)) ?_);rw[show((y:Int)-15).toNat=y-15 by omega];refine aZ hO (Γ.length+1) BN (v:=u32 ((h2 b y).getD (y-15) 0)) (by grind[GU]) (ai (nL (by omega) (by omega)) (ai (fA (by omega) (by omega)) ?_));rw[show((y:Int)-2).toNat=y-2 by omega];refine aZ hO (Γ.length+1) BN (v:=u32 ((h2 b y).getD (y-2) 0)) (by grind[GU]) (ai (nL (by omega) (by omega)) (ai (fA (by omega) (by omega)) ?_));rw[show((y:Int)-16).toNat=y-16 by omega];refine aZ hO (Γ.length+1) BN (v:=u32 ((h2 b y).getD (y-16) 0)) (by grind[GU]) (ih hO (acY _ _ _) ?_);clear hO;intro q H hO;refine K4 (l:=[7,18]) (ea _) (by simp_all) (by simp) hO (j:=_+0) (aC rfl) (⟨ko hO,?_⟩);refine ai (xV (k:=.u32) (n:=3) rfl (by decide)) (ai (nM (k:=.u32) rfl (GO (ea _)) (Nat.lt_of_le_of_lt (Nat.div_le_self _ _) (ea _))) (ai (sq (k:=.u32) rfl) (ai (nL (by omega) (by omega)) (ai (fA (by omega) (by omega)) ?_))));rw[show((y:Int)-7).toNat=y-7 by omega];refine aZ hO (Γ.length+1) nt (v:=u32 ((h2 b y).getD (y-7) 0)) (by grind[GU]) (⟨ko hO,ts Jb,?_⟩);refine ai (sq (k:=.u32) rfl) (ih hO (acY _ _ _) ?_);clear hO;intro ca H hO;refine K4 (l:=[17,19]) (ea _) (by simp_all) (by simp) hO (j:=_+0) (aC rfl) ?_;rw[List.append_assoc (Γ++_)]at hO;refine⟨ko hO,ko hO,?_⟩;refine ai (xV (k:=.u32) (n:=10) rfl (by decide)) (ai (nM (k:=.u32) rfl (GO (ea _)) (Nat.lt_of_le_of_lt (Nat.div_le_self _ _) (ea _))) (ai (sq (k:=.u32) rfl) (ai (fA (by omega) (by omega)) ?_)))
   rw[Int.toNat_natCast];rw[List.append_assoc Γ,List.append_assoc [_,_]]at hO;refine fQ hO (Γ.length+1) BN rfl (by grind[En]) rfl ?_;clear hO;intro H hO
   replace hO:=eC (R:=_) (by
    unfold tq;rw[if_neg (by omega)];generalize pe ((h2 b y).getD (y-15) 0) [7,18] ^^^ (h2 b y).getD (y-15) 0/2^3=X;generalize pe ((h2 b y).getD (y-2) 0) [17,19] ^^^ (h2 b y).getD (y-2) 0/2^10=iQ;have zG:gu .u32=4294967296:=rfl
    simp_all) hO
   repeat refine bH ?_
   exact⟨_,by omega,y+1,_,by omega,rfl,rfl,hO⟩
 ·have lW:y=64:=by omega
  subst lW;refine kW rfl ?_
  try simp only[cR,cS]
  refine hi hO (Γ.length+1) BN (En (by omega)) (by omega) (gl hO (Γ.length+0) (aC rfl) (by simp) (En (by omega)) (by simp[ll,eP]) ?_);clear hO;intro H hO
  replace hO:=hO.cy
  exact hi hO (Γ.length+0) (aC rfl) (En (by omega)) (by omega) (ag _ hO.left)
end J
namespace J
open Go Go.Ab
variable[cu:b0]
variable{H:au}{Γ b8:List (Nat×az)}{aa:VH}{v w x:Value}{b:List Int}{j:Nat}{e:Int}
theorem atj{o n c i q dt fF cp:Nat}{ar:List Value}{aa:VH}(hO:al H Γ)(aq:Γ[i]?=some (q,⟨ar,true⟩))(aX:fF<=n)(bM:0<fF)(aD:o+n<=ar.length)(q0:dt+fF<=ar.length)(ad:ar.all eP=true)
  (ag:∀ab,al ab (Γ.set i (q,⟨ar.take o++((ar.drop dt).take fF++ar.drop (o+fF)),true⟩))->aa (int fF) ab):ah (qD 1 (aF q o n c) (aF q dt fF cp) H) aa:=by
 have hlen:((ar.drop dt).take fF).length=fF:=by grind
 obtain⟨ab,aM,aw⟩:=F8 hO (o:=o) (bV:=(ar.drop dt).take fF) aq (by omega) (by grind);unfold qD;simp only[show mZ (aF q dt fF cp)=some fF from rfl];have aV:Nat.min fF n=fF:=Nat.min_eq_left aX;rw[aV];have an:Nat.beq fF 0=false:=by grind[Nat.eq_of_beq_eq_true]
 rw[an];simp only[Bool.false_eq_true,if_false];have hg:=hO.at i aq (.inl rfl);have he:sU H 1 fF (aF q dt fF cp)=some ((ar.drop dt).take (fF*1)):=Ga hg (by simp_all);rw[he,Nat.mul_one];simp only;rw[aM];refine cH (show some (Value.int .i64 ((fF:Nat):Int),ab)=_ from rfl) ?_;rw[hlen]at aw;exact ag _ aw
theorem atk(x:W8):(ji x).all fH=true:=rfl
theorem K6(x:W8):(ji x).all eP=true:=rfl
theorem atl:(kc.map fun(n:Nat)=>u32 n).all fH=true:=by rfl
theorem atm{i:Nat}(h:i<64):(kc.map fun(n:Nat)=>u32 n)[i]?=some (u32 (kc.getD i 0)):=by
 have aD:kc.length=64:=rfl
 grind
theorem atn(i:Nat):kc.getD i 0<4294967296:=BM (by decide) i
theorem ato(x:W8)(k w:Nat):
  ((((x.h+pe x.e [6,11,25])%4294967296+zE x.e x.f x.g)%4294967296+k)%4294967296+w)%4294967296=yd x k w:=by
 simp_all[yd]
theorem atp{bI cY fx ye dI:Nat}{s:W8}{hb:List Nat}{bY:LX}{c9:LN}(aw:s.b1)(aM:∀x∈hb,x<4294967296)(vL:hb.length=64){Ef ac1:Nat}(bl:Γ[Ef]?=some (fx,⟨ll hb,true⟩))(pd:Γ[ac1]?=some (ye,⟨kc.map fun(n:Nat)=>u32 n,true⟩))
  (hO:al H (Γ++[(dI,⟨ji s,true⟩)])) (ag:∀ab b8,al ab ((Γ++[(dI,⟨ji (rK hb s 64),true⟩)])++b8)->bY 0 [ak bI 0,ak cY 0,ak dI 0] ab):
  fw P true 97 QC 148 [ak bI 0,ak cY 0,ak fx 0,ak ye 0,ak dI 0,int 0] H bY c9:=by
 refine arx (fun k aG ab=>∃(y:Nat) (b8:List (Nat×az)),y<=64/\k=64-y/\aG=[ak bI 0,ak cY 0,ak fx 0,ak ye 0,ak dI 0,int y]/\al ab ((Γ++[(dI,⟨ji (rK hb s y),true⟩)])++b8)) _ _ ?_ 64 _ _ ⟨0,[],by omega,rfl,rfl,by rw[List.append_nil];exact hO⟩;clear hO;rintro k aG H ⟨y,b8,ba,rfl,rfl,hO⟩;unfold abS
 try simp only[cR,cS]
 refine ai gj (bT (fun h=>?_) (fun h=>?_))
 rotate_left
 ·have lW:y=64:=by omega
  subst lW;exact ag _ _ hO
 have gp:=GP (w:=hb) aw y;have atq:hb.getD y 0<4294967296:=BM aM y;have bu:rK hb s (y+1)=GN (rK hb s y) (kc.getD y 0) (hb.getD y 0):=rfl;generalize rK hb s y=x at*;have mK:∀ {R:List (Nat×az)},(((Γ++[(dI,(⟨ji x,true⟩:az))])++b8)++R)[Γ.length+0]?=some (dI,⟨ji x,true⟩):=aS (aS (aC rfl));have K7:((Γ++[(dI,(⟨ji x,true⟩:az))])++b8)[Γ.length+0]?=some (dI,⟨ji x,true⟩):=aS (aC rfl);have l5:∀ {R:List (Nat×az)},(((Γ++[(dI,(⟨ji x,true⟩:az))])++b8)++R)[Ef]?=some (fx,⟨ll hb,true⟩):=aS (aS (aS bl));have i16:∀ {R:List (Nat×az)},(((Γ++[(dI,(⟨ji x,true⟩:az))])++b8)++R)[ac1]?=some (ye,⟨kc.map fun(n:Nat)=>u32 n,true⟩):=aS (aS (aS pd));have ac2:dI<H.next:=hO.lt _ (List.mem_of_getElem? K7);have atr:fx<H.next:=hO.lt _ (List.mem_of_getElem? (aS (aS bl)));have ats:ye<H.next:=hO.lt _ (List.mem_of_getElem? (aS (aS pd)));have BO:∀ {bw:au} {R:List (Nat×az)} {o:Nat},al bw (((Γ++[(dI,(⟨ji x,true⟩:az))])++b8)++R)->ei (dZ bw bw) (cd [ak dI o]):=fun ad=>ha ad _ mK ad _ mK (atk x)
 have att:∀ {bw:au} {R:List (Nat×az)} {o:Nat},al bw (((Γ++[(dI,(⟨ji x,true⟩:az))])++b8)++R)->ei (dZ bw bw) (cd [ak fx o]):=fun ad=>ha ad _ l5 ad _ l5 ac0
 have atu:∀ {bw:au} {R:List (Nat×az)} {o:Nat},al bw (((Γ++[(dI,(⟨ji x,true⟩:az))])++b8)++R)->ei (dZ bw bw) (cd [ak ye o]):=fun ad=>ha ad _ i16 ad _ i16 atl
 have zG:gu .u32=4294967296:=rfl;refine ai (fA (by omega) (by omega)) (aZ hO _ K7 (v:=u32 x.a) rfl (ai (fA (by omega) (by omega)) (aZ hO _ K7 (v:=u32 x.e) rfl (ai (fA (by omega) (by omega)) (aZ hO _ K7 (v:=u32 x.h) rfl (ih hO (acZ _ _ _ _) ?_))))));clear hO;intro q cD hO;refine K4 (l:=[6,11,25]) gp.e (by simp_all) (by simp) hO (j:=_+0) (aC rfl) (⟨BO hO,?_⟩);refine ai (sq (k:=.u32) rfl) (ai (fA (by omega) (by omega)) (aZ hO _ mK (v:=u32 x.f) rfl (⟨BO hO,ts ac2,?_⟩)));refine ai (vA (k:=.u32) rfl gp.e gp.f) (ai (alK (k:=.u32) rfl gp.e) (ai (fA (by omega) (by omega)) (aZ hO _ mK (v:=u32 x.g) rfl (⟨BO hO,ts ac2,?_⟩))));have dj:gu .u32-1-x.e<gu .u32:=by omega
 refine ai (vA (k:=.u32) rfl dj gp.g) (ai (nM (k:=.u32) rfl (Nat.and_lt_two_pow (n:=32) _ gp.f) (Nat.and_lt_two_pow (n:=32) _ gp.g)) (ai (sq (k:=.u32) rfl) (ai WE (ai (fA (by omega) (by omega)) ?_))));rw[Int.toNat_natCast];refine aZ hO _ i16 (v:=u32 (kc.getD y 0)) (by grind[atm]) (⟨atu hO,ts ats,?_⟩);refine ai (sq (k:=.u32) rfl) (ai (fA (by omega) (by omega)) ?_);rw[Int.toNat_natCast];refine aZ hO _ l5 (v:=u32 (hb.getD y 0)) (by grind[GU]) (⟨att hO,ts atr,?_⟩);refine ai (sq (k:=.u32) rfl) ?_;have atv:=ato x (kc.getD y 0) (hb.getD y 0);rw[zG,show(x.e&&&x.f) ^^^ ((4294967296-1-x.e)&&&x.g)=zE x.e x.f x.g from rfl,atv];have K8:dI<cD.next:=hO.lt _ (List.mem_of_getElem? mK);refine ih hO (acZ _ _ _ _) ?_;clear hO;intro ca iM hO;refine K4 (l:=[2,13,22]) gp.a (by simp_all) (by simp) hO (j:=_+0) (aC rfl) ?_;rw[List.append_assoc (_++b8)]at hO;refine ai (fA (by omega) (by omega)) (aZ hO _ mK (v:=u32 x.b) rfl (⟨BO hO,ts K8,?_⟩));refine ai (vA (k:=.u32) rfl gp.a gp.b) (ai (fA (by omega) (by omega)) (aZ hO _ mK (v:=u32 x.c) rfl (⟨BO hO,ts K8,?_⟩)));refine ai (vA (k:=.u32) rfl gp.a gp.c) (ai (nM (k:=.u32) rfl (Nat.and_lt_two_pow (n:=32) _ gp.b) (Nat.and_lt_two_pow (n:=32) _ gp.c)) (ai (fA (by omega) (by omega)) (aZ hO _ mK (v:=u32 x.b) rfl (⟨BO hO,ts K8,?_⟩))));refine ai (fA (by omega) (by omega)) (aZ hO _ mK (v:=u32 x.c) rfl (⟨BO hO,ts K8,?_⟩))
 refine ai (vA (k:=.u32) rfl gp.b gp.c) (ai (nM (k:=.u32) rfl (Nat.xor_lt_two_pow (n:=32) (Nat.and_lt_two_pow (n:=32) _ gp.b) (Nat.and_lt_two_pow (n:=32) _ gp.c)) (Nat.and_lt_two_pow (n:=32) _ gp.c)) (ai (sq (k:=.u32) rfl) ?_));rw[zG,show((x.a&&&x.b) ^^^ (x.a&&&x.c)) ^^^ (x.b&&&x.c)=BI x.a x.b x.c from rfl,show(pe x.a [2,13,22]+BI x.a x.b x.c)%4294967296=K2 x from rfl];have hg:=hO.at _ mK (.inl rfl);refine ai (show me 8 1 (ak dI 0) (some (int 1)) none none iM=some (aF dI 1 7 3) by unfold me;simp only[hg];rfl) (ai (show me 8 1 (ak dI 0) none (some (int 7)) none iM=some (aF dI 0 7 2) by unfold me;simp only[hg];rfl) (atj hO mK (by omega) (by omega) (show 1+7<=8 by omega) (show 0+7<=8 by omega) (K6 x) ?_));clear hO hg;intro ui hO;have Q1:∀ {c cC:List Value} {R:List (Nat×az)},((((Γ++[(dI,(⟨c,true⟩:az))])++b8)++R).set (Γ.length+0) (dI,⟨cC,true⟩))=(((Γ++[(dI,(⟨cC,true⟩:az))])++b8)++R):=by simp_all
 have Q2:∀ {c:List Value} {R:List (Nat×az)},(((Γ++[(dI,(⟨c,true⟩:az))])++b8)++R)[Γ.length+0]?=some (dI,⟨c,true⟩):=aS (aS (aC rfl));rw[Q1]at hO;refine ai (fA (by omega) (by omega)) (aZ hO _ Q2 (v:=u32 x.d) rfl (ai (sq (k:=.u32) rfl) (ai (fA (by omega) (by omega)) (fQ hO _ Q2 rfl (show 4<8 by omega) (show _=[u32 x.a,u32 x.a,u32 x.b,u32 x.c,u32 ((x.d+yd x (kc.getD y 0) (hb.getD y 0))%4294967296),u32 x.e,u32 x.f,u32 x.g]from rfl) ?_))));clear hO;intro acq hO;rw[Q1]at hO;refine ai (sq (k:=.u32) rfl) (ai (fA (by omega) (by omega)) (fQ hO _ Q2 rfl (show 0<8 by omega) (show _=ji (GN x (kc.getD y 0) (hb.getD y 0))from rfl) ?_));clear hO;intro xZ hO;rw[Q1]at hO
 repeat refine bH ?_
 rw[List.append_assoc (Γ++_),<- bu]at hO;exact⟨64-(y+1),by omega,y+1,_,by omega,rfl,rfl,hO⟩
end J
namespace J
open Go Go.Ab
variable[cu:b0]
variable{H:au}{Γ b8:List (Nat×az)}{aa:VH}{v w x:Value}{b:List Int}
theorem ac3{l:List Value}{i:Nat}{v:Value}(h:l[i]?=some v):i<l.length:=(List.getElem?_eq_some_iff.1 h).1
def rL(a b:List Nat)(y:Nat):List Nat:=(List.range a.length).map fun i=>if i<y then(a.getD i 0+b.getD i 0)%4294967296 else a.getD i 0
theorem ac4{a b:List Nat}{y:Nat}:(rL a b y).length=a.length:=by simp_all[rL]
theorem K9{a b:List Nat}{y i:Nat}(h:i<a.length):(rL a b y)[i]?=some (if i<y then(a.getD i 0+b.getD i 0)%4294967296 else a.getD i 0):=by simp_all[rL]
theorem ac5{a b:List Nat}{y:Nat}(h:y<a.length):(rL a b y).set y ((a.getD y 0+b.getD y 0)%4294967296)=rL a b (y+1):=by
 apply List.ext_getElem?;intro i;rw[List.getElem?_set];by_cases aq:i<a.length
 ·rw[K9 aq,K9 aq];by_cases he:y=i
  ·simp_all[ac4]
  grind
 simp_all[ac4]
theorem ac6{s R:W8}:rL s.l R.l 8=(Em s R).l:=rfl
theorem atw{s R:W8}{bI cY dI:Nat}{T:List (Nat×az)}{bY:LX}{c9:LN}(mK:T[2]?=some (dI,⟨ji R,true⟩))
  (hO:al H (Γ++([(bI,⟨ji s,true⟩),(cY,⟨List.replicate 8 (u32 0),true⟩)]++T)))
  (ag:∀ab,al ab (Γ++([(bI,⟨ji (Em s R),true⟩),(cY,⟨List.replicate 8 (u32 0),true⟩)]++T))->bY 2 [ak bI 0,ak cY 0] ab):
  fw P true 97 QD 20 [ak bI 0,ak cY 0,ak dI 0,int 0] H bY c9:=by
 refine ary (fun k aG ab=>∃(y:Nat),y<=8/\k=8-y/\aG=[ak bI 0,ak cY 0,ak dI 0,int y]/\al ab (Γ++([(bI,⟨(rL s.l R.l y).map fun(n:Nat)=>u32 n,true⟩),(cY,⟨List.replicate 8 (u32 0),true⟩)]++T))) _ _ ?_ 8 _ _ ⟨0,by omega,rfl,rfl,hO⟩;clear hO;rintro k aG H ⟨y,ba,rfl,rfl,hO⟩;unfold abT
 try simp only[cR,cS]
 have Ks:s.l.length=8:=rfl;have ac7:R.l.length=8:=rfl;refine ai gj (bT (fun h=>?_) (fun h=>?_))
 ·have zH:y<8:=by omega
  have zG:gu .u32=4294967296:=rfl;have dm:((rL s.l R.l y).map fun(n:Nat)=>u32 n)[0+y*1]?=some (u32 (s.l.getD y 0)):=by simp_all[K9]
  have da:(ji R)[0+y*1]?=some (u32 (R.l.getD y 0)):=by simp_all[ji]
  have a3:((rL s.l R.l y).map fun(n:Nat)=>u32 n).set (0+y*1) (u32 ((s.l.getD y 0+R.l.getD y 0)%4294967296))=(rL s.l R.l (y+1)).map fun(n:Nat)=>u32 n:=by grind[ac5,List.map_set]
  refine ai (fA (by omega) (by omega)) ?_;rw[Int.toNat_natCast];refine aZ hO (Γ.length+0) (aC rfl) dm (ai (fA (by omega) (by omega)) ?_);rw[Int.toNat_natCast];refine aZ hO (Γ.length+(2+2)) (aC (aC (Γ:=[_,_]) mK)) da (ai (sq (k:=.u32) rfl) (ai (fA (by omega) (by omega)) ?_));rw[Int.toNat_natCast,zG];refine fQ hO (Γ.length+0) (aC rfl) rfl (ac3 dm) a3 ?_;clear hO;intro H hO
  replace hO:=hO.cy
  repeat refine bH ?_
  exact⟨_,by omega,y+1,by omega,rfl,rfl,hO⟩
 ·have lW:y=8:=by omega
  subst lW;rw[ac6]at hO;exact ag _ hO
theorem atx{s:W8}(aw:s.b1)(hO:al H Γ)(hv:cl Γ v b)(an:∀x∈b,0<=x/\x<=255)(aD:b.length=64)(ag:∀ab,al ab Γ->aa (agg (ji (BJ s b))) ab):wCall P 260 [agg (ji s),v] H aa:=by
 apply arz;unfold abU;refine dT hO ?_;clear hO;intro bI H hO;rw[acW];refine dT hO ?_;clear hO;intro cY H hO;rw[List.append_assoc]at hO
 replace hO:al H (Γ++[(bI,⟨ji s,true⟩),(cY,⟨List.replicate 8 (u32 0),true⟩)]):=hO
 refine ati hO hv.bo an aD ?_;clear hO;intro H hO;refine ate hO ?_;clear hO;intro H ye hO;rw[acX];refine dT hO ?_;clear hO;intro fx H hO;have vL:(h2 b 64).length=64:=GR 64;refine gl hO (_+0) (aC rfl) (by simp) (En (by omega)) (by simp[ll,eP]) ?_;clear hO;intro H hO
 replace hO:=hO.cy
 refine hi hO (Γ.length+0) (aS (aS (aC rfl))) rfl (by omega) (dT hO ?_);clear hO;intro dI H hO;refine gl hO (_+0) (aC rfl) (by simp) rfl (K6 s) ?_;clear hO;intro H hO
 replace hO:=hO.cy
 refine atp (hb:=h2 b 64) aw (GS an 64) vL (aC (k:=0) rfl) (aS (aC (k:=0) rfl)) hO ?_;clear hO;intro H b8 hO;refine kW rfl ?_
 try simp only[cR,cS]
 generalize bc:rK (h2 b 64) s 64=R at*;have bJ:=GP (w:=h2 b 64) aw 64;have aV:BJ s b=Em s R:=by simp_all[BJ]
 replace hO:al H (Γ++([(bI,⟨ji s,true⟩),(cY,⟨List.replicate 8 (u32 0),true⟩)]++([(ye,⟨kc.map fun(n:Nat)=>u32 n,true⟩)]++([(fx,⟨ll (h2 b 64),true⟩)]++([(dI,⟨ji R,true⟩)]++b8))))):=by have af:=hO;simp only[List.append_assoc]at af;exact af
 obtain⟨T,bk⟩:∃T,T=([(ye,(⟨kc.map fun(n:Nat)=>u32 n,true⟩:az))]++([(fx,⟨ll (h2 b 64),true⟩)]++([(dI,⟨ji R,true⟩)]++b8))):=⟨_,rfl⟩;have mK:T[2]?=some (dI,⟨ji R,true⟩):=by rw[bk];rfl
 rw[<- bk]at hO;clear bk;refine atw mK hO ?_;clear hO;intro H hO;rw[<- aV]at hO;refine kW rfl ?_
 try simp only[cR,cS]
 refine hi hO (Γ.length+0) (aC rfl) rfl (by omega) (gl hO (Γ.length+1) (aC rfl) rfl rfl (K6 _) ?_);clear hO;intro H hO
 replace hO:=hO.cy
 exact hi hO (Γ.length+1) (aC rfl) rfl (by omega) (ag _ hO.left)
end J
namespace J
open Go Go.Ab
variable[cu:b0]
variable{H:au}{Γ:List (Nat×az)}{aa:VH}{v w x:Value}{aj bg jx b:List Int}{j p bm:Nat}{e:Int}{ar:List Value}
def q1(v:Value)(aj:List Int)(ar:List Value):Prop:=
 (v=bB/\aj=[]/\ar=[])\/∃p o,(v=aF p o aj.length 2\/v=aF p o aj.length 3)/\(ar.drop o).take aj.length=bj aj/\o+aj.length<=ar.length/\ar.all fH=true
theorem fI.o(h:fI v aj ar):q1 v aj ar:=by
 rcases h with h|⟨p,ad,af,ax,aO⟩
 ·exact .inl h
 ·refine .inr ⟨p,0,?_,by simp_all,by omega,aO⟩
  grind
theorem q1.lR(h:q1 v aj ar):cl (b2 v ar) v aj:=by
 rcases h with⟨rfl,rfl,_⟩|⟨p,o,ad|ad,af,ax,aO⟩
 ·exact .nil
 ·subst ad;exact .inr ⟨p,o,2,rfl,.inl rfl,.inr ⟨0,⟨ar,true⟩,rfl,af⟩⟩
 ·subst ad;exact .inr ⟨p,o,3,rfl,.inr rfl,.inr ⟨0,⟨ar,true⟩,rfl,af⟩⟩
theorem aty(hO:al H (Γ++b2 v ar))(hv:q1 v aj ar)(ao:cl Γ x bg)(aD:aj.length+bg.length<=1000000000)
  (ag:∀ab aQ bx,al ab (Γ++b2 aQ bx)->q1 aQ (aj++bg) bx->aa aQ ab):ah (gD 1 1 v x H) aa:=by
 rcases hv with⟨rfl,rfl,rfl⟩|⟨p,o,hv,af,ax,aO⟩
 ·exact te (aj:=[]) hO .nil ao aD fun ab aQ bx ad af=>ag ab aQ bx ad (fI.o af)
 unfold gD;simp only[ao.mZ,ao.bo.pE hO];by_cases ba:bg=[]
 ·subst ba;rw[List.append_nil]at ag;have e:qC 1 1 v ([]:List Value) 0 H=some (v,H):=by unfold qC;rcases hv with rfl|rfl<;>rfl
  exact cH (show qC 1 1 v ([]:List Value) 0 H=some (v,H)from e) (ag _ _ _ hO (.inr ⟨p,o,hv,af,ax,aO⟩))
 have Bh:0<bg.length:=List.length_pos_iff.2 ba;have qQ:Nat.beq bg.length 0=false:=by grind[Nat.eq_of_beq_eq_true]
 have ad:(bj bg).all eP=true:=by simp[eP]
 have xP:∀p,q1 (aF p 0 (aj.length+bg.length) 2) (aj++bg) (bj aj++bj bg):=fun p=>by
  refine .inr ⟨p,0,.inl (by simp_all),?_,by simp,by simp[fH,ta]⟩
  grind
 unfold qC;have sn:b2 v ar=[(p,⟨ar,true⟩)]:=by rcases hv with rfl|rfl<;>rfl
 rw[sn]at hO;have aq:(Γ++[(p,(⟨ar,true⟩:az))])[Γ.length]?=some (p,⟨ar,true⟩):=by simp
 have n9:=hO.at _ aq (.inl rfl);rcases hv with rfl|rfl
 ·have xQ:=hO.fb aq;have he:(Γ++[(p,(⟨ar,true⟩:az))]).eraseIdx Γ.length=Γ:=by grind
  rw[he]at xQ;simp only[qQ,Bool.false_eq_true,if_false];rw[if_pos (wH (by omega) (by omega))];rw[if_neg (show¬Nat.beq 2 (2*1+1)=true by decide),if_pos (show Nat.beq 2 (2*1)=true by decide)];unfold Am;rw[n9];have e:(au.ou H p ⟨ar,true⟩&&(Nat.ble (o+aj.length*1) (fE ar)&&jT eP (bj bg)))=true:=by unfold au.ou;rw[hO.c6,gX,ki,ad,l3,l3,decide_eq_true (by omega:o+aj.length*1<=ar.length)];simp
  simp only[e];have bF:hT (p3 (pw ar (o+aj.length*1)) o) (bj bg)=bj aj++bj bg:=by simp_all[iF,nE,mD,List.drop_take]
  rw[bF];exact cH (show l1 (bj aj++bj bg) (aj.length+bg.length) (2*1) (H.set p none)=some (aF H.next 0 (aj.length+bg.length) 2,(H.set p none).push (bj aj++bj bg))from rfl) (ag _ _ _ (xQ.push _) (xP _))
 ·simp only[qQ,Bool.false_eq_true,if_false];rw[if_pos (wH (by omega) (by omega))];rw[if_pos (show Nat.beq 3 (2*1+1)=true by decide)];unfold yC;have ey:(if Nat.beq aj.length 0=true then some []else rZ H p o (aj.length*1))=some (bj aj):=by simp_all[AB,xe,mD,nE,gX]
  rw[ey];simp only[iF];exact cH (show l1 (bj aj++bj bg) (aj.length+bg.length) (2*1) H=some (aF H.next 0 (aj.length+bg.length) 2,H.push (bj aj++bj bg))from rfl) (ag _ _ _ (hO.left.push _) (xP _))
theorem La{len n:Nat}(h:n<=len):qE len (some (int (n:Int)))=some n:=by
 show(match kf 0 (n:Int)with|true=>(match Nat.ble (n:Int).toNat len with|true=>some (n:Int).toNat|false=>none)|false=>none)=_
 simp_all[ly,Nat.ble_eq_true_of_le]
theorem atz(h:q1 v aj ar){n:Nat}(aX:n<=aj.length)(bM:0<n):∃aQ,hP 1 v (some (int n)) none none=some aQ/\q1 aQ (aj.drop n) ar/\b2 aQ ar=b2 v ar:=by
 rcases h with⟨rfl,rfl,_⟩|⟨p,o,hv,af,ax,aO⟩
 ·simp_all
 have an:=La aX;have eC:∀c,(c=2\/c=3)->hP 1 (aF p o aj.length c) (some (int n)) none none=some (aF p (o+n) (aj.length-n) c):=by simp_all[hP,ow,r2,rj]
 have aJ:(ar.drop (o+n)).take (aj.drop n).length=bj (aj.drop n):=by
  have:=congrArg (List.drop n) af;rw[List.drop_take,List.drop_drop]at this
  simp_all
 rcases hv with rfl|rfl
 ·exact⟨_,eC 2 (.inl rfl),.inr ⟨p,o+n,.inl (by simp_all),aJ,by grind,aO⟩,rfl⟩
 ·exact⟨_,eC 3 (.inr rfl),.inr ⟨p,o+n,.inr (by simp_all),aJ,by grind,aO⟩,rfl⟩
def sA(s:W8)(fG:Value)(n:Nat):List Value:=ji s++[fG,bS .u64 n]
abbrev nv(bm:Nat)(s:W8)(fG:Value)(n:Nat)(ar:List Value):List (Nat×az):=[(bm,⟨sA s fG n,true⟩)]++b2 fG ar
theorem Q3(h:q1 v aj ar):∃a n c,v=.slice a n c:=by rcases h with⟨rfl,_⟩|⟨p,o,rfl|rfl,_⟩<;>exact⟨_,_,_,rfl⟩
theorem nw{a b:List Int}(br:∀x∈a,0<=x/\x<=255)(an:∀x∈b,0<=x/\x<=255):∀x∈a++b,0<=x/\x<=255:=fun x ao=>by grind
theorem atA{fG:Value}(hO:al H (Γ++nv bm (mM aj) fG aj.length ar))(hv:q1 fG (BL aj) ar)(aM:cl Γ w bg)(ao:∀x∈aj,0<=x/\x<=255)(ba:∀x∈bg,0<=x/\x<=255)(aD:aj.length<=100000000)(q0:bg.length<=100000000)
  (ag:∀ab BP bx,al ab (Γ++nv bm (mM (aj++bg)) BP (aj++bg).length bx)->q1 BP (BL (aj++bg)) bx->aa (.tuple [].toArray) ab):wCall P 235 [ak bm 0,w] H aa:=by
 apply ara;unfold abz;rw[<- List.append_assoc]at hO;refine aY (aZ hO (Γ.length+0) (aS (aC rfl)) (v:=bS .u64 aj.length) rfl (cH aM.cG (cH (DL (by omega) (by omega)) ?_)));rw[Int.toNat_natCast];refine ai (sq (k:=.u64) rfl) ?_;rw[Nat.mod_eq_of_lt (show aj.length+bg.length<gu .u64 from(show _<18446744073709551616 by omega))];refine aY (fQ hO (Γ.length+0) (aS (aC rfl)) rfl (show 9<10 by omega) (show _=sA (mM aj) fG (aj.length+bg.length)from rfl) ?_);clear hO;intro H hO;rw[List.set_append_left _ _ (by simp),Go.Ab.cy]at hO
 replace hO:al H ((Γ++[(bm,⟨sA (mM aj) fG (aj.length+bg.length),true⟩)])++b2 fG ar):=hO
 refine aY (aZ hO (Γ.length+0) (aS (aC rfl)) (v:=fG) rfl ?_);have Ep:=Q0 (aj:=aj);refine aty hO hv aM.bo (by omega) ?_;clear hO;intro H yf l4 hO kl;refine aY ?_;obtain⟨a0,hd,o3,hZ⟩:=Q3 kl;refine fQ hO (Γ.length+0) (aS (aC rfl)) (by rw[hZ];rfl) (show 8<10 by omega) (show _=sA (mM aj) yf (aj.length+bg.length)from rfl) ?_;clear hO;intro H hO;rw[List.set_append_left _ _ (by simp),Go.Ab.cy]at hO
 replace hO:al H ((Γ++[(bm,⟨sA (mM aj) yf (aj.length+bg.length),true⟩)])++b2 yf l4):=hO
 have qa:(aj++bg).length=aj.length+bg.length:=List.length_append;have eu:=nw ao ba;have bn:mM aj=pN (aj++bg) (aj.length/64):=(acV _ (by omega)).symm;have bF:BL aj++bg=(aj++bg).drop (64*(aj.length/64)):=by grind[BL]
 rw[bn]at hO;rw[bF]at kl;rw[<- qa]at hO;clear hZ a0 hd o3;generalize aB9:aj++bg=jx at*;refine aq9 (fun k aG ab=>∃(m:Nat) (fG:Value) (ar:List Value),64*m<=jx.length/\k=jx.length/64-m/\aG=[ak bm 0]/\al ab ((Γ++[(bm,⟨sA (pN jx m) fG jx.length,true⟩)])++b2 fG ar)/\q1 fG (jx.drop (64*m)) ar) _ _ ?_ (jx.length/64-aj.length/64) _ _ ⟨aj.length/64,yf,l4,by omega,rfl,rfl,hO,kl⟩;clear hO kl;rintro k aG H ⟨m,fG,ar,aV,rfl,rfl,hO,hv⟩;unfold aby
 try simp only[cR,cS]
 refine aY (aZ hO (Γ.length+0) (aS (aC rfl)) (v:=fG) rfl (cH hv.lR.cG (ai uk ?_)));rw[List.length_drop];refine bT (fun h=>?_) (fun h=>?_)
 ·refine aY (jM hO (Γ.length+0) (aS (aC rfl)) (show _=ji (pN jx m)from rfl) rfl (by omega) (aY (aZ hO (Γ.length+0) (aS (aC rfl)) (v:=fG) rfl ?_)));obtain⟨atB,atC,bd⟩:=BE (n:=64) hv.lR (by grind);refine ai atC ?_;have lQ:cl ((Γ++[(bm,(⟨sA (pN jx m) fG jx.length,true⟩:az))])++b2 fG ar) atB ((jx.drop (64*m)).take 64):=(bd _ hv.lR).jv;refine atx (GQ m) hO lQ (fun x ao=>eu x (List.mem_of_mem_drop (List.mem_of_mem_take ao))) (by grind) ?_;clear hO lQ;intro H hO;refine aY (o9 hO (Γ.length+0) (aS (aC rfl)) (show(dp (agg (ji (BJ (pN jx m) ((jx.drop (64*m)).take 64))))).length=8 from rfl) (show 0+8<=10 by omega) (K6 _) ?_);clear hO;intro H hO;rw[List.set_append_left _ _ (by simp),Go.Ab.cy]at hO
  replace hO:al H ((Γ++[(bm,⟨sA (pN jx (m+1)) fG jx.length,true⟩)])++b2 fG ar):=hO
  refine aY (aZ hO (Γ.length+0) (aS (aC rfl)) (v:=fG) rfl ?_);obtain⟨v3,ey,hn,iJ⟩:=atz (n:=64) hv (by grind) (by omega);refine ai ey (aY ?_);obtain⟨a0,hd,o3,hZ⟩:=Q3 hn;refine fQ hO (Γ.length+0) (aS (aC rfl)) (by rw[hZ];rfl) (show 8<10 by omega) (show _=sA (pN jx (m+1)) v3 jx.length from rfl) ?_
  grind[List.drop_drop]
 ·have em:m=jx.length/64:=by omega
  subst em;refine kW rfl (ag H fG ar ?_ hv);rw[<- List.append_assoc];exact hO
theorem atD(s:W8)(a:Option Addr)(n c:Nat)(m:Nat):(di P 391).f [(0,agg (ji s)),(1,.slice a n c),(2,bS .u64 m)]=some (agg (sA s (.slice a n c) m)):=by rfl
theorem atE(s:W8):(di P 391).f [(0,agg (ji s))]=some (agg (sA s bB 0)):=by rfl
theorem Lb(hO:al H Γ)(ag:∀ab bm,al ab (Γ++nv bm (mM []) bB ([]:List Int).length [])->aa (ak bm 0) ab):wCall P 234 [] H aa:=by apply aq8;unfold abw;refine atf hO ?_;clear hO;intro H hO;refine ai (atE _) (dT hO ?_);clear hO;intro bm H hO;exact ag H bm hO
theorem al.Q4{i j p q:Nat}{b dE:az}(h:al H Γ)(aq:Γ[i]?=some (p,b))(bp:Γ[j]?=some (q,dE))(qc:i≠j):p≠q:=by
 intro e;subst e;have e8:(Γ.map (·.1))[i]?=some p:=by simp_all
 have fF:(Γ.map (·.1))[j]?=some p:=by simp_all
 have ea:i<(Γ.map (·.1)).length:=by grind
 exact qc ((List.getElem?_inj ea h.sm).1 (e8.trans fF.symm))
theorem Q6{p o:Nat}{fG:Value}{bK:List Value}(hO:al H ((Γ++[(p,(⟨bK,true⟩:az))])++b2 fG ar))(hv:q1 fG aj ar):qS (cd [ak p o]) (cd [.slice none 0 0,fG])/\qS (cd [.slice none 0 0,fG]) (cd [ak p o]):=by
 rcases hv with⟨rfl,_,_⟩|⟨q,dt,hv,_⟩
 ·exact⟨(by first|rfl|trivial),(by first|rfl|trivial)⟩
 have sn:b2 fG ar=[(q,⟨ar,true⟩)]:=by rcases hv with rfl|rfl<;>rfl
 rw[sn]at hO;have dj:p≠q:=al.Q4 hO (i:=Γ.length+0) (j:=(Γ++[(p,(⟨bK,true⟩:az))]).length+0) (aS (aC rfl)) (aC rfl) (by simp);have bn:Nat.beq p q=false:=by grind[Nat.eq_of_beq_eq_true]
 have bF:Nat.beq q p=false:=by grind[Nat.eq_of_beq_eq_true]
 rcases hv with rfl|rfl
 ·exact⟨by show oY [p] [q]=true;grind[oY,ki,sV],by show oY [q] [p]=true;grind[oY,ki,sV]⟩
 ·exact⟨by show oY [p] [q]=true;grind[oY,ki,sV],by show oY [q] [p]=true;grind[oY,ki,sV]⟩
end J
namespace J
open Go Go.Ab
variable[cu:b0]
variable{H:au}{Γ b8:List (Nat×az)}{aa:VH}{v w x:Value}{aj bs:List Int}{bm:Nat}{ar:List Value}
theorem atF{s:W8}{fG:Value}{n:Nat}(hO:al H ((Γ++nv bm s fG n ar)++b8))(hv:q1 fG aj ar)(aD:aj.length<=1000000000)
  (ag:∀ab ac8 BP bx,al ab (((Γ++nv bm s fG n ar)++b8)++nv ac8 s BP n bx)->q1 BP aj bx->aa (ak ac8 0) ab):wCall P 251 [ak bm 0] H aa:=by
 apply ark;unfold abG;have hA:al H ((Γ++[(bm,⟨sA s fG n,true⟩)])++b2 fG ar):=by rw[List.append_assoc];exact hO.left
 have I8:=Q6 (o:=8) hA hv;have atG:=Q6 (o:=9) hA hv;have atH:=Q6 (o:=0) hA hv;have qH:∀ {R:List (Nat×az)},(((Γ++nv bm s fG n ar)++b8)++R)[Γ.length+0]?=some (bm,⟨sA s fG n,true⟩):=aS (aS (aC rfl));have Q7:((Γ++nv bm s fG n ar)++b8)[Γ.length+0]?=some (bm,⟨sA s fG n,true⟩):=aS (aC rfl);have ea:bm<H.next:=hO.lt _ (List.mem_of_getElem? Q7);refine aY (jM hO _ Q7 (show _=ji s from rfl) rfl (by omega) (aY (aZ hO _ Q7 (v:=fG) rfl ?_)));have lQ:cl ((Γ++nv bm s fG n ar)++b8) fG aj:=by
  have ad:cl (Γ++nv bm s fG n ar) fG aj:=by rw[<- List.append_assoc];exact hv.lR.jv
  exact ad.bo
 have dd:al H (((Γ++nv bm s fG n ar)++b8)++b2 bB []):=by rw[show b2 bB []=[]from rfl,List.append_nil];exact hO
 refine te (aj:=[]) dd .nil lQ (by simpa using aD) ?_;clear hO dd hA;intro cD yf l4 hO kl;refine⟨atH.1,?_⟩;refine aY (aZ hO _ qH (v:=bS .u64 n) rfl (⟨atG.2,ts ea,?_⟩));have bJ:=fI.o kl;obtain⟨a0,hd,o3,hZ⟩:=Q3 bJ;refine ai (by rw[hZ];exact atD s a0 hd o3 n) ?_;rw[<- hZ];refine dT hO ?_;clear hO;intro GV H hO;exact ag H GV yf l4 (hO.fP (by rw[List.append_assoc];exact List.Perm.append_left _ List.perm_append_comm)) bJ
def oL(bs:List Int):List Value:=bj bs++List.replicate (32-bs.length) (bS .u8 0)
theorem ac9{bs:List Int}(h:bs.length<=32):(oL bs).length=32:=by grind[oL]
theorem ada{bs:List Int}{x:Int}(h:bs.length<32):(oL bs).set bs.length (.int .u8 x)=oL (bs++[x]):=by
 unfold oL;rw[List.set_append_right _ _ (by simp)];obtain⟨m,aV⟩:∃m,32-bs.length=m+1:=⟨31-bs.length,by omega⟩
 grind
theorem adb{s:W8}:(nS s).length=32:=rfl
theorem ade:∀(l:List Nat) (m i:Nat),m<l.length->i<4->(l.flatMap zF)[4*m+i]?=(zF (l.getD m 0))[i]?
 | [],_,_,h,_=>absurd h (Nat.not_lt_zero _)
 | a::l,0,i,_,aq=>by rw[List.flatMap_cons,Nat.mul_zero,Nat.zero_add,List.getElem?_append_left (show i<(zF a).length from aq)];rfl
 | a::l,m+1,i,h,aq=>by rw[List.flatMap_cons,List.getElem?_append_right (show(zF a).length<=4*(m+1)+i by show 4<=_;omega),show 4*(m+1)+i-(zF a).length=4*m+i by show _-4=_;omega,ade l m i (by grind) aq];rfl
theorem atI{w i:Nat}(h:i<4):(zF w)[i]?=some (((w/2^(24-8*i)%256:Nat):Int)):=by
 rcases i with _|_|_|_|i
 ·rfl
 ·rfl
 ·rfl
 ·show some ((w%256:Nat):Int)=some (((w/2^0%256:Nat):Int))
  simp_all
 ·omega
theorem adf{s:W8}{m i:Nat}(aV:m<8)(aq:i<4):(nS s).take (4*m+i)++[((s.l.getD m 0/2^(24-8*i)%256:Nat):Int)]=(nS s).take (4*m+i+1):=by
 have ad:=ade s.l m i (show m<8 from aV) aq
 simp_all[atI,List.take_add_one,nS]
theorem adg{n i:Nat}(h:i<8):(tr n)[i]?=some (((n/2^(56-8*i)%256:Nat):Int)):=by simp_all[tr]
theorem adh{n:Nat}:∀x∈tr n,0<=x/\x<=255:=by intro x ao;obtain⟨i,_,rfl⟩:=List.mem_map.1 ao;omega
theorem Er{x:Int}(h:0<=x/\x<=255):∀y∈ [x],0<=y/\y<=255:=fun y ba=>by simp_all
theorem GW{n:Nat}:∀y∈List.replicate n (0:Int),0<=y/\y<=255:=fun y ba=>by simp_all
theorem Es(x:Int)(H:au):(eY P 22 1).f [(0,.int .u8 x)] H=some (aF H.next 0 1 3,H.push [.int .u8 x]):=by rfl
theorem Q8{q c:Nat}{x:Int}(aA:c=2\/c=3):cl (Γ++[(q,(⟨[.int .u8 x],true⟩:az))]) (aF q 0 1 c) [x]:=.inr ⟨q,0,c,rfl,aA,.inr ⟨Γ.length+0,_,aC rfl,rfl⟩⟩
theorem zI:dq P 52=List.replicate 32 (bS .u8 0):=by rfl
end J
namespace J
open Go Go.Ab
variable[cu:b0]
variable{H:au}{Γ:List (Nat×az)}{aa:VH}{v w x:Value}{aj bg jx:List Int}{bm:Nat}{e:Int}{ar:List Value}
structure ln (bm:Nat) (aj:List Int) (L:List (Nat×az)):Prop where
 aCa::
 cP:∃fG ar,L=nv bm (mM aj) fG aj.length ar/\q1 fG (BL aj) ar
theorem yg{L:List (Nat×az)}(hO:al H (Γ++L))(aJ:ln bm aj L)(aM:cl Γ w bg)(ao:∀x∈aj,0<=x/\x<=255)(ba:∀x∈bg,0<=x/\x<=255)(aD:aj.length<=100000000)(q0:bg.length<=100000000)
  (ag:∀ab cv,al ab (Γ++cv)->ln bm (aj++bg) cv->aa (.tuple [].toArray) ab):wCall P 235 [ak bm 0,w] H aa:=by
 obtain⟨fG,ar,rfl,hv⟩:=aJ.cP;exact atA hO hv aM ao ba aD q0 fun ab BP bx ad af=>ag ab _ ad ⟨BP,bx,rfl,af⟩
theorem GX{L:List (Nat×az)}{y:Nat×az}(hO:al H ((Γ++L)++[y])):al H ((Γ++[y])++L):=hO.fP (by rw[List.append_assoc,List.append_assoc];exact List.Perm.append_left _ List.perm_append_comm)
theorem Lc{L:List (Nat×az)}{y:Nat×az}(hO:al H ((Γ++[y])++L)):al H (Γ++L):=hO.sub (by rw[List.append_assoc];exact List.Sublist.append (List.Sublist.refl _) (List.sublist_append_right _ _))
theorem atJ{L:List (Nat×az)}{bI n:Nat}{bY:LX}{c9:LN}(hO:al H (Γ++L))(aJ:ln bm (aj++[128]) L)(ao:∀x∈aj,0<=x/\x<=255)(aD:aj.length<=90000000)
  (ag:∀ab cv,al ab (Γ++cv)->ln bm (aj++[128]++List.replicate (nu aj.length) 0) cv->bY 0 [ak bI 0,ak bm 0,bS .u64 n] ab):
  fw P true 67 Qx 28 [ak bI 0,ak bm 0,bS .u64 n] H bY c9:=by
 refine aqV (fun k aG ab=>∃(y:Nat) (L:List (Nat×az)),y<=nu aj.length/\k=nu aj.length-y/\aG=[ak bI 0,ak bm 0,bS .u64 n]/\al ab (Γ++L)/\ln bm (aj++[128]++List.replicate y 0) L) _ _ ?_ (nu aj.length) _ _ ⟨0,L,by omega,rfl,rfl,hO,by rw[List.replicate_zero,List.append_nil];exact aJ⟩;clear hO aJ;rintro k aG H ⟨y,L,ba,rfl,rfl,hO,aJ⟩;unfold abf
 try simp only[cR,cS]
 obtain⟨fG,ar,rfl,hv⟩:=aJ.cP;have hlen:(aj++[128]++List.replicate y (0:Int)).length=aj.length+1+y:=by grind
 have Et:nu aj.length<64:=Nat.mod_lt _ (by decide);refine aY (aZ hO (Γ.length+0) (aC rfl) (v:=fG) rfl (cH hv.lR.cG (ai jh ?_)));rw[Q0,hlen];refine bT (fun h=>?_) (fun h=>?_)
 ·have ea:y<nu aj.length:=by grind[nu]
  refine ih hO (Es 0 _) ?_;clear hO;intro q H hO;have dd:=GX hO;refine yg dd aJ (Q8 (.inr rfl)) (nw (nw ao (Er (by decide))) GW) (Er (by decide)) (by omega) (by simp) ?_;clear hO dd aJ;intro H L hO aJ;rw[List.append_assoc _ (List.replicate y 0),<- List.replicate_succ']at aJ
  grind[Lc]
 ·have ba:y=nu aj.length:=by grind[nu]
  subst ba;exact ag H _ hO aJ
theorem atK{L:List (Nat×az)}{bI n:Nat}{bY:LX}{c9:LN}(hO:al H (Γ++L))(aJ:ln bm jx L)(ao:∀x∈jx,0<=x/\x<=255)(aD:jx.length<=95000000)(aX:n<18446744073709551616)
  (ag:∀ab cv,al ab (Γ++cv)->ln bm (jx++tr n) cv->bY 2 [ak bI 0,ak bm 0] ab):
  fw P true 67 Qy 12 [ak bI 0,ak bm 0,bS .u64 n,int 0] H bY c9:=by
 refine aqW (fun k aG ab=>∃(y:Nat) (L:List (Nat×az)),y<=8/\k=8-y/\aG=[ak bI 0,ak bm 0,bS .u64 n,int y]/\al ab (Γ++L)/\ln bm (jx++(tr n).take y) L) _ _ ?_ 8 _ _ ⟨0,L,by omega,rfl,rfl,hO,by rw[List.take_zero,List.append_nil];exact aJ⟩;clear hO aJ;rintro k aG H ⟨y,L,ba,rfl,rfl,hO,aJ⟩;unfold abg
 try simp only[cR,cS]
 refine ai gj (bT (fun h=>?_) (fun h=>?_))
 ·have zH:y<8:=by omega
  refine ai (v:=int ((8*y:Nat):Int)) (by grind[zc]) (ai (v:=int ((56-8*y:Nat):Int)) (by grind[nL]) (ai (xV (k:=.u64) rfl (show 56-8*y<=64 by omega)) (cH (vB (fh:=.u8) rfl) (ih hO (Es _ _) ?_))));clear hO;intro q H hO;have dd:=GX hO;have an:(0:Int)<=((n/2^(56-8*y)%gu .u8:Nat):Int)/\((n/2^(56-8*y)%gu .u8:Nat):Int)<=255:=by have:=Nat.mod_lt (n/2^(56-8*y)) (show gu .u8>0 by decide);have e:gu .u8=256:=rfl;omega
  refine yg dd aJ (Q8 (.inr rfl)) (nw ao fun x ao=>adh x (List.mem_of_mem_take ao)) (Er an) (by grind) (by simp) ?_;clear hO dd aJ;intro H L hO aJ;have e:(tr n).take y++[((n/2^(56-8*y)%gu .u8:Nat):Int)]=(tr n).take (y+1):=by rw[List.take_add_one,adg zH];rfl
  rw[List.append_assoc,e]at aJ
  repeat refine bH ?_
  exact⟨8-(y+1),by omega,y+1,L,by omega,rfl,rfl,Lc hO,aJ⟩
 ·have ba:y=8:=by omega
  subst ba;rw[List.take_of_length_le (by rw[K3];omega)]at aJ;exact ag H L hO aJ
theorem atL{s:W8}{bI gP m:Nat}{v4 v5:Value}{bY:LX}{c9:LN}(aV:m<8)(hO:al H (Γ++[(gP,⟨oL ((nS s).take (4*m)),true⟩)]))
  (ag:∀ab,al ab (Γ++[(gP,⟨oL ((nS s).take (4*(m+1))),true⟩)])->bY 6 [ak bI 0,ak gP 0,v4,v5] ab):
  fw P true 67 QA 105553116266564 [ak bI 0,ak gP 0,int m,u32 (s.l.getD m 0),v4,v5,int 0] H bY c9:=by
 refine aqY (fun k aG ab=>∃(y:Nat),y<=4/\k=4-y/\aG=[ak bI 0,ak gP 0,int m,u32 (s.l.getD m 0),v4,v5,int y]/\al ab (Γ++[(gP,⟨oL ((nS s).take (4*m+y)),true⟩)])) _ _ ?_ 4 _ _ ⟨0,by omega,rfl,rfl,hO⟩;clear hO;rintro k aG H ⟨y,ba,rfl,rfl,hO⟩;unfold abi
 try simp only[cR,cS]
 refine ai gj (bT (fun h=>?_) (fun h=>?_))
 ·have adi:y<4:=by omega
  have hlen:((nS s).take (4*m+y)).length=4*m+y:=by grind[adb]
  refine ai (v:=int ((4*m:Nat):Int)) (by grind[zc]) (ai (v:=int ((4*m+y:Nat):Int)) (by grind[mn]) (ai (v:=int ((8*y:Nat):Int)) (by grind[zc]) (ai (v:=int ((24-8*y:Nat):Int)) (by grind[nL]) (ai (xV (k:=.u32) rfl (show 24-8*y<=32 by omega)) (cH (vB (fh:=.u8) rfl) (ai (fA (by omega) (by omega)) ?_))))));rw[Int.toNat_natCast];refine fQ hO (Γ.length+0) (aC rfl) rfl (show 0+(4*m+y)*1<(oL ((nS s).take (4*m+y))).length by grind[ac9]) (show _=oL ((nS s).take (4*m+y+1))from ?_) ?_
  ·rw[<- adf aV adi,<- ada (by omega),hlen,show 0+(4*m+y)*1=4*m+y by omega];rfl
  clear hO;intro H hO
  replace hO:=hO.cy
  repeat refine bH ?_
  exact⟨4-(y+1),by omega,y+1,by omega,rfl,rfl,hO⟩
 ·have ba:y=4:=by omega
  subst ba;exact ag H hO
theorem atM{s:W8}{m:Nat}(h:m<8):H9 8 1 (CI P 338).f (agg (ji s)) (int m)=some (u32 (s.l.getD m 0)):=by
 rcases m with _|_|_|_|_|_|_|_|m
 ·rfl
 ·rfl
 ·rfl
 ·rfl
 ·rfl
 ·rfl
 ·rfl
 ·rfl
 ·omega
theorem atN{s:W8}{bI gP:Nat}{bY:LX}{c9:LN}(hO:al H (Γ++[(gP,⟨oL [],true⟩)]))
  (ag:∀ab,al ab (Γ++[(gP,⟨bj (nS s),true⟩)])->bY 4 [ak bI 0,ak gP 0] ab):
  fw P true 67 Qz 68 [ak bI 0,ak gP 0,agg (ji s),int 0] H bY c9:=by
 refine aqX (fun k aG ab=>∃(y:Nat),y<=8/\k=8-y/\aG=[ak bI 0,ak gP 0,agg (ji s),int y]/\al ab (Γ++[(gP,⟨oL ((nS s).take (4*y)),true⟩)])) _ _ ?_ 8 _ _ ⟨0,by omega,rfl,rfl,hO⟩;clear hO;rintro k aG H ⟨y,ba,rfl,rfl,hO⟩;unfold abh
 try simp only[cR,cS]
 refine ai gj (bT (fun h=>?_) (fun h=>?_))
 ·have zH:y<8:=by omega
  refine ai (atM zH) (atL zH hO ?_);clear hO;intro H hO;refine kW rfl ?_
  try simp only[cR,cS]
  repeat refine bH ?_
  exact⟨8-(y+1),by omega,y+1,by omega,rfl,rfl,hO⟩
 ·have ba:y=8:=by omega
  subst ba;have e:oL ((nS s).take (4*8))=bj (nS s):=by rfl
  rw[e]at hO;exact ag H hO
end J
namespace J
open Go Go.Ab
variable[cu:b0]
variable{H:au}{Γ:List (Nat×az)}{aa:VH}{v x:Value}{aj:List Int}{j bm:Nat}{ar:List Value}
theorem Ld{L:List (Nat×az)}(hO:al H (Γ++L))(aJ:ln bm aj L)(ao:∀x∈aj,0<=x/\x<=255)(aD:aj.length<=80000000)
  (ag:∀ab,al ab (Γ++L)->aa (agg (bj (gB aj))) ab):wCall P 228 [ak bm 0] H aa:=by
 obtain⟨fG,ar,rfl,hv⟩:=aJ.cP;apply aqZ;unfold abj;rw[zI];refine dT hO ?_;clear hO;intro bI H hO;have Ep:=Q0 (aj:=aj);refine atF hO hv (by omega) ?_;clear hO;intro H GV yf l4 hO kl;have n2:ln GV aj (nv GV (mM aj) yf aj.length l4):=⟨yf,l4,rfl,kl⟩;refine aY (aZ hO (_+0) (aC rfl) (v:=bS .u64 aj.length) rfl ?_);refine ai (v:=bS .u64 (8*aj.length)) (by rw[show(Value.int .u64 8)=bS .u64 8 from rfl,Pb (k:=.u64) rfl,Nat.mod_eq_of_lt (show aj.length*8<gu .u64 from(show _<18446744073709551616 by omega)),Nat.mul_comm]) ?_;refine ih hO (Es 128 _) ?_;clear hO;intro q H hO;have dd:=GX hO;refine yg dd n2 (Q8 (.inr rfl)) ao (Er (by decide)) (by omega) (by simp) ?_;clear hO dd n2;intro H L hO n2;refine atJ (Lc hO) n2 ao (by omega) ?_;clear hO n2;intro H L hO n2;refine kW rfl ?_
 try simp only[cR,cS]
 have Et:nu aj.length<64:=Nat.mod_lt _ (by decide);have atO:∀x∈aj++[128]++List.replicate (nu aj.length) 0,0<=x/\x<=255:=nw (nw ao (Er (by decide))) GW;refine atK hO n2 atO (by grind) (by omega) ?_;clear hO n2;intro H L hO n2;refine kW rfl ?_
 try simp only[cR,cS]
 replace n2:ln GV (vK aj) L:=n2
 obtain⟨aCb,Eu,rfl,aCc⟩:=n2.cP;refine dT hO ?_;clear hO;intro gP H hO;refine aY (jM hO (_+0) (aS (aC rfl)) (show _=ji (mM (vK aj))from rfl) rfl (by omega) (atN hO ?_));clear hO;intro H hO;refine kW rfl ?_
 try simp only[cR,cS]
 refine jM hO (_+0) (aC rfl) (show _=bj (gB aj)from rfl) rfl (by omega) ?_;have j4:∀ {R K5:List (Nat×az)},((((Γ++nv bm (mM aj) fG aj.length ar)++[(bI,(⟨List.replicate 32 (bS .u8 0),true⟩:az))])++R)++K5)[(Γ++nv bm (mM aj) fG aj.length ar).length+0]?=some (bI,⟨List.replicate 32 (bS .u8 0),true⟩):=aS (aS (aC rfl));refine o9 hO _ j4 rfl (show 0+32<=32 by omega) (show(bj (gB aj)).all eP=true by rfl) ?_;clear hO;intro H hO;rw[List.set_append_left _ _ (by simp),List.set_append_left _ _ (by simp),Go.Ab.cy]at hO;exact jM hO ((Γ++nv bm (mM aj) fG aj.length ar).length+0) (aS (aS (aC rfl))) (show _=bj (gB aj)from rfl) rfl (by omega) (ag H hO.left.left.left)
theorem adj(a:Option Addr)(n c:Nat)(H:au):(eY P 369 1).f [(0,.slice a n c)] H=some (aF H.next 0 1 3,H.push [.slice a n c]):=by rfl
theorem Q9{q:Nat}(hO:al H Γ)(b5:Γ[j]?=some (q,(⟨[v],true⟩:az)))(hv:cl Γ v aj)(ao:∀x∈aj,0<=x/\x<=255)(aD:aj.length<=80000000)
  (ag:∀ab,al ab Γ->aa (agg (bj (gB aj))) ab):wCall P 204 [aF q 0 1 3] H aa:=by
 apply aa1;unfold Qv;rw[zI];refine dT hO ?_;clear hO;intro bI H hO;refine Lb hO ?_;clear hO;intro H bm hO;have aJ:ln bm [] (nv bm (mM []) bB ([]:List Int).length []):=⟨bB,[],rfl,.inl ⟨rfl,rfl,rfl⟩⟩;refine cH xO ?_;generalize (nv bm (mM []) bB ([]:List Int).length [])=L at*;refine aa0 (fun k aG ab=>∃(y:Nat) (L:List (Nat×az)),y<=1/\k=1-y/\aG=[ak bI 0,ak bm 0,aF q 0 1 3,int 1,int y]/\al ab ((Γ++[(bI,⟨List.replicate 32 (bS .u8 0),true⟩)])++L)/\ln bm (if y=0 then []else aj) L) _ _ ?_ 1 _ _ ⟨0,L,by omega,rfl,rfl,hO,aJ⟩;clear hO aJ;rintro k aG H ⟨y,L,ba,rfl,rfl,hO,aJ⟩;unfold Qu
 try simp only[cR,cS]
 refine ai gj (bT (fun h=>?_) (fun h=>?_))
 ·have vM:y=0:=by omega
  subst vM;refine ai (ky (by omega) (by omega)) (aZ hO j (aS (aS b5)) (v:=v) rfl (yg hO aJ hv.bo (by simp_all) ao (by simp) (by omega) ?_));clear hO aJ;intro H L hO aJ
  repeat refine bH ?_
  exact⟨0,by omega,1,L,by omega,rfl,rfl,hO,aJ⟩
 ·have vM:y=1:=by omega
  subst vM;refine kW rfl ?_
  try simp only[cR,cS]
  refine Ld hO aJ ao aD ?_;clear hO;intro H hO;refine o9 hO (Γ.length+0) (aS (aC rfl)) rfl (show 0+32<=32 by omega) (show(bj (gB aj)).all eP=true by rfl) ?_;clear hO;intro H hO;rw[List.set_append_left _ _ (by simp),Go.Ab.cy]at hO;exact jM hO (Γ.length+0) (aS (aC rfl)) (show _=bj (gB aj)from rfl) rfl (by omega) (ag H hO.left.left)
end J
namespace J
open Go Go.Ab
variable[cu:b0]
variable{H:au}{Γ:List (Nat×az)}{aa:VH}{v:Value}{ar:List Value}{L:lG}{m:bt}{part bh:Int}
def bt.vN(m:bt)(part:Int)(n:Nat):List Int:=(List.range n).flatMap fun(i:Nat)=>(m.gA part i).1
def bt.all(m:bt)(part:Int):List Int:=m.vN part (m.size part)
theorem bt.adk{n:Nat}:m.vN part (n+1)=m.vN part n++(m.gA part n).1:=by simp_all[bt.vN,List.range_succ]
theorem bt.Ra(ok:m.b1):∀n,(m.vN part n).length=64*n
 | 0=>rfl
 | n+1=>by rw[bt.adk,List.length_append,bt.Ra ok n,bt.yb ok];omega
theorem bt.GY(ok:m.b1):m.size part<=4096:=by
 unfold bt.size;split
 ·rename_i h;have ad:=ok.s _ (bt.acF h);have af:=ok.d.n;omega
 ·omega
theorem atP(ok:m.b1)(hO:al H (Γ++dQ L m))(ag:∀ab v ar,al ab ((Γ++dQ L m)++b2 v ar)->fI v (m.all part) ar->aa v ab):wCall P 18 [ak L.cV 0,int part] H aa:=by
 apply aoA;unfold Yz;have eU:=bt.GY ok (part:=part);refine acH hO (aoz (fun k aG ab=>∃(y:Nat) (v:Value) (ar:List Value),y<=m.size part/\k=m.size part-y/\aG=[ak L.cV 0,int part,bB,v,int (m.size part),int y]/\al ab ((Γ++dQ L m)++b2 v ar)/\fI v (m.vN part y) ar) _ _ ?_ (m.size part) _ _ ⟨0,bB,[],by omega,rfl,rfl,by rw[show b2 bB []=[]from rfl,List.append_nil];exact hO,.nil⟩);clear hO;rintro k aG H ⟨y,v,ar,ba,rfl,rfl,hO,hv⟩;unfold Yy
 try simp only[cR,cS]
 refine ai gj (bT (fun h=>?_) (fun h=>?_))
 ·have lU:y<m.size part:=by omega
  refine acI ok hO.nR ?_;clear hO;intro H hO;have Ep:=bt.yb ok (part:=part) (bh:=y);refine ai km (ai kn ?_);rw[BF];refine dT hO ?_;clear hO;intro dI H hO
  replace hO:al H (((Γ++dQ L m)++[(dI,⟨bj sx,true⟩)])++b2 v ar):=hO.fP (by classical exact List.perm_iff_count.2 fun _=>by grind)
  refine gl hO ((Γ++dQ L m).length+0) (aS (aC rfl)) (by rfl) (by simp_all) (lT _) ?_;clear hO;intro H hO;rw[List.set_append_left _ _ (by simp),Go.Ab.cy]at hO
  replace hO:al H (((Γ++dQ L m)++[(dI,⟨bj (m.gA part y).1,true⟩)])++b2 v ar):=hO
  refine ai (xW hO ((Γ++dQ L m).length+0) (aS (aC rfl)) (by omega) (by simp_all)) ?_;have lQ:cl ((Γ++dQ L m)++[(dI,(⟨bj (m.gA part y).1,true⟩:az))]) (aF dI 0 64 3) (m.gA part y).1:=.inr ⟨dI,0,3,by rw[Ep],.inr rfl,.inr ⟨(Γ++dQ L m).length+0,_,aC rfl,by simp_all[List.take_of_length_le]⟩⟩;refine te hO hv lQ (by grind[bt.Ra]) ?_;clear hO;intro H ec l4 hO kl;rw[<- bt.adk]at kl
  repeat refine bH ?_
  grind[al.cf]
 ·have lU:y=m.size part:=by omega
  subst lU;exact kW rfl (ag H v ar hO hv)
end J
