/- texts of the nf, fh behind the mA -/
import Derived.Test.YtifflnhooaophaaGreatDoorUD
set_option linter.unusedVariables false
set_option linter.unusedSimpArgs false
set_option linter.unusedSectionVars false
set_option maxHeartbeats 8000000
set_option maxRecDepth 100000
open List Nat
namespace J
open Go Go.Ab
variable[cu:b0]
variable{H:au}{ae:List (Nat×ax)}{aa:VH}{v w x:Value}{xs bh:List Int}{j p:Nat}{e:Int}
abbrev agg(l:List Value):Value:=.agg l.toArray
theorem gh{p n:Nat}{aq:List Value}{w:Bool}{aa:VH}(h:aj H ae)(i:Nat)(an:ae[i]?=some (p,⟨aq,w⟩))(aU:aq.length=n)(bJ:0<n)(ah:aa (agg aq) H):af (bZ n (ai p 0) H) aa:=by
 refine iH h i an (show _=aq from ?_) aU bJ ah
 grind
theorem fT{p n:Nat}{aq cY:List Value}{aa:VH}(h:aj H ae)(i:Nat)(an:ae[i]?=some (p,⟨aq,true⟩))(aU:aq.length=n)(aD:cY.length=n)(h1:cY.all eL=true)
  (ah:∀ab,aj ab (ae.set i (p,⟨cY,true⟩))->aa undef ab):af (bx n (ai p 0) (agg cY) H) aa:=by
 refine pR h i an aD (by omega) h1 fun ab hO=>ah ab ?_
 have e:aq.take 0++(dr (agg cY)++aq.drop (0+n))=cY:=by rw[drop_of_length_le (by omega)];show []++(cY++[])=cY;simp
 rw[e]at hO;exact hO
theorem kT{a b:Value}:eD 0 (.tuple [a,b].toArray)=some a:=rfl
theorem kU{a b:Value}:eD 1 (.tuple [a,b].toArray)=some b:=rfl
theorem aj.ca{L R:List (Nat×ax)}(h:aj H ((ae++L)++R)):aj H (ae++R):=h.sub (List.Sublist.append (sublist_append_left ae L) (List.Sublist.refl R))
abbrev A7(ae:List (Nat×ax))(aa:VH)(xs:List Int):Prop:=∀(ab:au) (aQ:Value) (bE:List Value),aj ab (ae++bQ aQ bE)->gf aQ xs bE->aa aQ ab
theorem A7.none(h:A7 ae aa [])(hO:aj H ae):aa bu H:=h H bu [] (by show aj H (ae++[]);rw[append_nil];exact hO) gf.nil
theorem aem:P.underlying 22=some (.slice 5):=by rfl
theorem C7(H:au):(eV P 22 0).f [] H=some (aC H.next 0 0 3,H.push []):=by rfl
theorem RZ(k:IntKind)(n:Int)(H:au):(eV P 22 1).f [(0,.int k n)] H=some (aC H.next 0 1 3,H.push [.int k n]):=by rfl
theorem aen(a:Option Addr)(n c:Nat)(H:au):(eV P 369 1).f [(0,.slice a n c)] H=some (aC H.next 0 1 3,H.push [.slice a n c]):=by rfl
theorem aum(a cH:Option Addr)(n mC c bV:Nat)(H:au):(eV P 369 2).f [(0,.slice a n c),(1,.slice cH mC bV)] H=some (aC H.next 0 2 3,H.push [.slice a n c,.slice cH mC bV]):=by rfl
theorem L9(hO:aj H ae)(hv:RdB ae v xs)(aD:xs.length<=100000000)(ah:A7 ae aa xs):ay P 124 [v] H aa:=by
 apply asa;unfold abX;have jT:=hv;rcases hv with⟨rfl,rfl⟩|⟨p,o,c,rfl,_⟩
 exact ag (Lt aem) (eT rfl (ah.none hO));refine ag (Lt aem) (dP rfl (ik hO (C7 _) ?_));intro q H hO;exact uv (v:=aC q 0 0 3) (aq:=[]) (xs:=[]) hO (.inr ⟨q,.inr ⟨rfl,rfl⟩,rfl,Nat.le_refl _,rfl⟩) jT (by grind) ah
theorem aun{n:Nat}(aU:n<=8)(ah:aa (int n) H):ay P 273 [int n] H aa:=by
 apply at9;unfold ad5
 repeat refine tq ?_
 rw[show max (0:Int) (min (n:Int) 8)=n by omega];exact ah
theorem auo{Ma:List (List Int)}{y:Nat}(h:y<Ma.length):(Ma.take (y+1)).flatten=(Ma.take y).flatten++Ma[y]:=by grind[take_succ_eq_append_getElem]
def fO(y n:Nat):List Int:=(List.range y).map fun i=>((n/256^i%256:Nat):Int)
theorem q0(y n:Nat):(fO y n).length=y:=by simp[fO]
theorem aup(y n:Nat):fO (y+1) n=fO y n++[((n/256^y%256:Nat):Int)]:=by simp[fO,range_succ]
def kC(xs:List Int)(e:Int)(n:Nat):List Int:=if e=0/\n<=xs.length then xs.take n else []
def oh(xs:List Int)(e:Int)(n:Nat):List Int:=if e=0/\n<=xs.length then xs.drop n else []
def lJ(xs:List Int)(e:Int)(n:Nat):Int:=if e=0/\n<=xs.length then 0 else if e=0 then 51 else e
abbrev j1(v:Value)(e:Int):ax:=⟨[v,int e],true⟩
theorem Mb{bR y:Nat×ax}(h:ae[j]?=some bR):(ae.set j y)[j]?=some y:=List.getElem?_set_self (List.getElem?_eq_some_iff.1 h).1
theorem Mc{di:ax}{s:Value}{cI:Nat}(h:RdB ae v xs)(bm:ae[j]?=some (p,j1 s e))(al:∃a n c,s=.slice a n c):RdB (ae.set j (cI,di)) v xs:=by
 rcases h with h|⟨bp,o,c,h1,h2,h3|⟨aeo,b,h3,aG⟩⟩
 exact .inl h;exact .inr ⟨bp,o,c,h1,h2,.inl h3⟩;by_cases hjj:aeo=j;subst hjj;rw[bm]at h3;cases h3;obtain⟨a,n,bV,rfl⟩:=al;refine .inr ⟨_,o,c,h1,h2,.inl ?_⟩
 match xs,o,aG with
 | [],_,_=>rfl
 | y::r,0,aG=>simp at aG
 | y::r,1,aG=>simp at aG
 | y::r,o+2,aG=>simp at aG
 exact .inr ⟨bp,o,c,h1,h2,.inr ⟨aeo,b,by grind,aG⟩⟩
theorem auq(a:Option Addr)(n c:Nat):(dq P 419).f [(0,.slice a n c)]=some (agg [.slice a n c,int 0]):=by rfl
theorem aep(hO:aj H ae)(hv:RdB ae v xs)(ah:∀ab p,aj ab (ae++[(p,j1 v 0)])->aa (ai p 0) ab):ay P 253 [v] H aa:=by apply atN;unfold adM;obtain⟨a,n,c,rfl⟩:=RdB.lk hv;refine ag (auq _ _ _) (dH hO ?_);intro p H hO;exact ah _ _ hO
theorem aeq{x:Int}(hO:aj H ae)(bm:ae[j]?=some (p,j1 v e))(ah:∀ab,aj ab (ae.set j (p,j1 bu (if e=0 then x else e)))->aa (.tuple [].toArray) ab):ay P 274 [ai p 0,int x] H aa:=by apply aua;unfold ad6;refine aV (aY hO j bm rfl (ag e2 (bF (fun h=>?_) (fun h=>?_))));rw[if_pos h]at ah;refine aV (fR hO j bm rfl (show 1<2 by omega) (show _=[v,int x]from rfl) ?_);intro H hO;refine aV (fR hO j (Mb bm) rfl (show 0<2 by omega) (show _=[bu,int x]from rfl) ?_);intro H hO;rw[set_set]at hO;exact ah _ hO;rw[if_neg h]at ah;refine aV (fR hO j bm rfl (show 0<2 by omega) (show _=[bu,int e]from rfl) ?_);intro H hO;exact ah _ hO
abbrev q1(v:Value)(xs:List Int)(aQ:Value)(bh:List Int):Prop:=∀ h9:List (Nat×ax),RdB h9 v xs->RdB h9 aQ bh
theorem q1.none{v:Value}{xs:List Int}:q1 v xs bu []:=fun _ _=>.nil
theorem A8(h:RdB ae v xs){n:Nat}(aU:n<=xs.length):∃aQ,hI 1 v none (some (int n)) none=some aQ/\q1 v xs aQ (xs.take n):=by
 rcases h with⟨rfl,rfl⟩|⟨p,o,c,rfl,aB,_⟩
 have:n=0:=by simp_all
 subst this;exact⟨bu,rfl,.none⟩;obtain⟨bV,gX,he⟩:=aob (o:=o) (p:=p) (n:=xs.length) (h:=(n:Int)) (by omega) (by omega) aB;rw[Int.toNat_natCast]at he;refine⟨_,he,fun h9 h=>?_⟩;rcases h with⟨h,_⟩|⟨cI,dK,R0,jW,_,h⟩
 cases h;cases jW;refine .inr ⟨p,o,bV,by simp_all,gX,?_⟩;rcases h with rfl|⟨j,b,h1,h2⟩
 simp_all
 refine .inr ⟨j,b,h1,?_⟩;rw[length_take,Nat.min_eq_left aU];have:=congrArg (List.take n) h2;rw[take_take,Nat.min_eq_left aU]at this
 simp_all
theorem Md(h:RdB ae v xs){n:Nat}(aU:n<=xs.length):∃aQ,hI 1 v (some (int n)) none none=some aQ/\q1 v xs aQ (xs.drop n):=by
 rcases h with⟨rfl,rfl⟩|⟨p,o,c,rfl,aB,_⟩
 have:n=0:=by simp_all
 subst this;exact⟨bu,rfl,.none⟩;have ak:qD xs.length (some (int (n:Int)))=some n:=by
  show(match kx 0 (n:Int)with|true=>(match Nat.ble (n:Int).toNat xs.length with|true=>some (n:Int).toNat|false=>none)|false=>none)=_
  simp_all[lf,ble_eq_true_of_le]
 have he:∃bV,(bV=2\/bV=3)/\hI 1 (aC p o xs.length c) (some (int n)) none none=some (aC p (o+n) (xs.length-n) bV):=by
  rcases aB with rfl|rfl
  simp_all[hI,oG,sl,rC]
  simp_all[hI,oG,sl,rC]
 obtain⟨bV,gX,he⟩:=he;refine⟨_,he,fun h9 h=>?_⟩;rcases h with⟨h,_⟩|⟨cI,dK,R0,jW,_,h⟩
 cases h;cases jW;refine .inr ⟨p,o+n,bV,by simp_all,gX,?_⟩;rcases h with rfl|⟨j,b,h1,h2⟩
 simp_all
 refine .inr ⟨j,b,h1,?_⟩;have:=congrArg (List.drop n) h2;rw[drop_take,drop_drop]at this
 simp_all
theorem Me{n:Nat}(hO:aj H ae)(bm:ae[j]?=some (p,j1 v e))(hv:RdB ae v xs)(aU:n<=1000000)
  (ah:∀ab ej ec,aj ab (ae.set j (p,j1 ec (lJ xs e n)))->q1 v xs ej (kC xs e n)->q1 v xs ec (oh xs e n)->aa ej ab):ay P 272 [ai p 0,int n] H aa:=by
 apply at8;unfold ad4
 repeat refine tq ?_
 rw[show max (n:Int) 0=n by omega];refine e3 (fun aA ab=>aA=[ai p 0,int n,.bool (decide (¬(e=0/\n<=xs.length)))]/\aj ab ae) ?_ ?_;refine aV (aY hO j bm rfl (ag ij (bF (fun h=>?_) (fun h=>?_))))
 repeat refine bH ?_
 exact⟨by simp_all,hO⟩;refine aV (aY hO j bm rfl (bW hv.bO ?_))
 repeat refine bH ?_
 refine⟨?_,hO⟩
 simp_all
 rintro aA H ⟨rfl,hO⟩
 try simp only[cj,ck]
 refine bF (fun h=>?_) (fun h=>?_);unfold kC oh lJ at ah;rw[if_neg h,if_neg h,if_neg h]at ah;refine aeq hO bm ?_;intro H hO;exact ah _ bu bu hO .none .none;have h:=Decidable.not_not.1 h;unfold kC oh lJ at ah;rw[if_pos h,if_pos h,if_pos h]at ah;obtain⟨ej,a7,r1⟩:=A8 hv h.2;obtain⟨ec,bt,r2⟩:=Md hv h.2;refine aV (aY hO j bm rfl (ag a7 (aV (aY hO j bm rfl (ag bt (aV ?_))))));obtain⟨cR,fN,cr,rfl⟩:=RdB.lk (r2 _ hv);refine fR hO j bm rfl (show 0<2 by omega) (show _=[.slice cR fN cr,int e]from rfl) ?_;intro H hO;rw[h.1]at hO;exact ah _ ej _ hO r1 r2
theorem aer{t:B3}{aa q3:VH}(h:y9 P t aa)(ah:∀v H,aa v H->q3 v H):y9 P t q3:=by obtain⟨n,c6,v,ab,h1,h2⟩:=h;exact⟨n,c6,v,ab,h1,ah _ _ h2⟩
theorem aur[L:b0]{l q Mf:Nat}{G:Nat->List (Nat×ax)}(bY:∀k,(G k)[Mf]?=some (q,⟨[v],true⟩))(hv:∀k,RdB (G k) v xs)(ao:xs.length<=1000000)
  (U:∀k (h:k<xs.length) H,aj H (G (k+1))->y9 P (.round l [int k,.int .u8 xs[k]] H) fun b ab=>b=.bool true/\aj ab (G k)) (hO:aj H (G xs.length)) (ah:∀ab,aj ab (G 0)->aa (.tuple [].toArray) ab):ay P 281 [wx l,ai q 0] H aa:=by
 apply auk;unfold aek;refine aY hO Mf (bY _) rfl (bW (hv xs.length).bO ?_)
 repeat refine bH ?_
 refine auj (fun k aA ab=>∃y:Nat,y<=xs.length/\k=y/\aA=[wx l,ai q 0,int ((y:Int)-1)]/\aj ab (G y)) _ _ ?_ xs.length _ _ ⟨xs.length,by omega,rfl,rfl,hO⟩;rintro k aA ab ⟨y,ba,rfl,rfl,hO⟩;unfold aej
 try simp only[cj,ck]
 repeat refine bH ?_
 refine bF (fun h=>?_) (fun h=>?_);obtain⟨z,rfl⟩:∃z:Nat,k=z+1:=⟨k-1,by omega⟩;have dU:z<xs.length:=by omega
 have aus:((z+1:Nat):Int)-1=z:=by omega
 rw[aus]at*;refine aY hO Mf (bY _) rfl ?_;obtain⟨bp,o,c,q4,b,rfl,h1,h2⟩:=(hv (z+1)).at dU
 repeat refine bH ?_
 refine aY hO q4 h1 (v:=.int .u8 xs[z]) (by simp_all) (Y9 (aer (U z dU _ hO) ?_));rintro b2 cJ ⟨rfl,dF⟩
 repeat (first|refine bH ?_|refine x9 ?_)
 exact⟨_,by omega,z,by omega,rfl,rfl,dF⟩;have:k=0:=by omega
 subst this
 repeat refine CR ?_
 exact ah _ hO
def im:List Int->Nat
 | []=>0
 | x::r=>x.toNat+256*im r
theorem Mg:∀(xs:List Int),(∀x∈xs,0<=x/\x<=255)->im xs<256^xs.length
 | [],_=>by simp[im]
 | x::r,h=>by
  have h1:=Mg r fun y ba=>h y (mem_cons_of_mem _ ba)
  have h2:=h x mem_cons_self;simp only[im,length_cons,Nat.pow_succ];omega
theorem aut{k:Nat}(h:k<xs.length):im (xs.drop k)=xs[k].toNat+256*im (xs.drop (k+1)):=by rw[drop_eq_getElem_cons h];rfl
theorem auu{a b:Nat}(ak:b<256):(a*2^8)|||b=b+256*a:=by rw[Nat.mul_comm,<- two_pow_add_eq_or_of_lt (i:=8) ak];omega
theorem RdB.bytes(ak:∀x∈xs,0<=x/\x<=255)(n:Nat)(e:Int):∀x∈kC xs e n,0<=x/\x<=255:=by grind[kC]
theorem Mh(xs:List Int)(e:Int)(n:Nat):(kC xs e n).length<=n:=by grind[kC]
theorem auv[L:b0]{zv m:Nat}{b:Int}{y:Nat×ax}{X:au->Prop}(hO:aj H (ae++[(zv,⟨[bT .u64 m],true⟩),y]))(hm:m<256^7)(ak:0<=b/\b<=255)(ah:∀ab,aj ab (ae++[(zv,⟨[bT .u64 (b.toNat+256*m)],true⟩),y])->X ab):
  af (aw (ai zv 0) H) fun auw cJ=>ad ((ar P .shl 27 true).f auw (.int .u64 8)) fun auy=>af (iw .u64 (.int .u8 b) cJ) fun auz aes=>ad ((ar P .or 27 false).f auy auz) fun FN=>af (bx 1 (ai zv 0) FN aes) fun u auA=>X auA:=by
 refine aY hO (ae.length+0) (az rfl) rfl (ag (Fk (n:=8) rfl (by decide)) ?_);rw[HL ak.1];refine bW (uu rfl) ?_;have h2:m*2^8%gr .u64=m*2^8:=mod_eq_of_lt (show m*2^8<2^64 by omega);have h3:b.toNat%gr .u64=b.toNat:=mod_eq_of_lt (show b.toNat<2^64 by omega);rw[h2,h3];refine ag (CP rfl (show m*2^8<2^64 by omega) (show b.toNat<2^64 by omega)) ?_;rw[auu (by omega)];refine fR hO (ae.length+0) (az rfl) rfl (show 0<1 by omega) (show _=[bT .u64 (b.toNat+256*m)]from rfl) ?_;intro H hO;exact ah _ hO.cD
theorem H9{k:Nat}(auB:k<=8)(hO:aj H ae)(bm:ae[j]?=some (p,j1 v e))(hv:RdB ae v xs)(ak:∀x∈xs,0<=x/\x<=255)
  (ah:∀ab ec,aj ab (ae.set j (p,j1 ec (lJ xs e k)))->q1 v xs ec (oh xs e k)->aa (bT .u64 (im (kC xs e k))) ab):ay P 254 [ai p 0,int k] H aa:=by
 apply atP;unfold adO;refine dH hO ?_;intro zv H hO;have rL:=(List.getElem?_eq_some_iff.1 bm).1;refine fR hO (ae.length+0) (az rfl) rfl (show 0<1 by omega) (show _=[bT .u64 0]from rfl) ?_;intro H hO
 replace hO:aj H (ae++[(zv,⟨[bT .u64 0],true⟩)]):=hO.cD
 refine aun auB (Me hO (aL bm) hv.app (by omega) ?_);intro H ej ec hO r1 r2;rw[set_append_left _ _ rL]at hO;have mH:=RdB.bytes ak k e;have ph:=Mh xs e k;have ah:=ah (ec:=ec);have r1:=r1 _ (Mc (di:=j1 ec (lJ xs e k)) (cI:=p) hv bm (RdB.lk hv));generalize ae.set j (p,j1 ec (lJ xs e k))=r0 at*;generalize kC xs e k=bs at*;apply at7;unfold ad3;refine dH hO ?_;intro q r4 hO;obtain⟨cU,fo,dg,a7⟩:=RdB.lk r1;have rI:dr ej=[ej]:=by rw[a7];rfl
 rw[rI,append_assoc]at hO;have auC:∀m:Nat,RdB (r0++[(zv,⟨[bT .u64 m],true⟩),(q,⟨[ej],true⟩)]) ej bs:=fun m=>r1.app
 refine Y8 (L:=cu) hO (f:=281) (args:=[wx (Nat.succ r4.next),ai q 0]) rfl ?_;intro T bk jX gq tx;generalize hL:jh (Nat.succ r4.next) _ cu=L at tx;refine aur (L:=L) (l:=Nat.succ r4.next) (Mf:=r0.length+1) (G:=fun m=>r0++[(zv,⟨[bT .u64 (im (bs.drop m))],true⟩),(q,⟨[ej],true⟩)]) (fun m=>az rfl) (fun m=>auC _) (by omega) ?_ (by rw[drop_of_length_le (Nat.le_refl _)];exact tx) ?_;intro m hm H Ia;subst hL;refine Y5 (n:=21) Ia bk jX rfl (by decide) ?_;rw[atO];unfold adN;refine Y3 Ia ?_;intro cJ dF;have ao:=mH _ (getElem_mem hm);have dw:=Mg (bs.drop (m+1)) fun y ba=>mH y (mem_of_mem_drop ba)
 have uj:256^(bs.drop (m+1)).length<=256^7:=Nat.pow_le_pow_right (by omega) (by grind);refine auv (L:=jh (Nat.succ r4.next) _ cu) dF (Nat.lt_of_lt_of_le dw uj) ao ?_;intro jr l0;refine Y4 l0 ?_;intro vy AB;refine⟨rfl,?_⟩;rw[aut hm];exact AB;intro cJ dF;subst hL;refine⟨.ready,_,by simp,dF,?_⟩;intro jr l0;show af _ _;exact aY l0 (r0.length+0) (az rfl) rfl (ah _ l0.left r2)
abbrev aet(ae:List (Nat×ax))(j p:Nat)(xs:List Int)(e:Int)(n:Nat)(ec:Value):List (Nat×ax):=ae.set j (p,j1 ec (lJ xs e n))
theorem auD{n:Nat}(hO:aj H ae)(bm:ae[j]?=some (p,j1 v e))(hv:RdB ae v xs)(aU:n<=1000000)(ao:xs.length<=1000000)
  (ah:∀ab ec aQ bE,aj ab (aet ae j p xs e n ec++bQ aQ bE)->q1 v xs ec (oh xs e n)->gf aQ (kC xs e n) bE->aa aQ ab):ay P 275 [ai p 0,int n] H aa:=by
 apply aub;unfold ad7;refine Me hO bm hv aU ?_;intro H ej ec hO r1 r2;have aD:=Mh xs e n;refine L9 hO (r1 _ (Mc (di:=j1 ec (lJ xs e n)) (cI:=p) hv bm (RdB.lk hv))) (by omega) ?_;intro ab aQ bE ju jT;exact ah ab ec aQ bE ju r2 jT
end J
namespace J
open Go Go.Ab
variable[cu:b0]
variable{H:au}{ae:List (Nat×ax)}{aa:VH}{v x:Value}{xs:List Int}{e:Int}
section
variable{α:Type}{f:α->List Value}{l:List α}{n i o m:Nat}
theorem aeu(aM:∀x∈l,(f x).length=n):(l.flatMap f).length=l.length*n:=by
 induction l with
 | nil=>simp
 | cons a l bg=>grind
theorem R1(aM:∀x∈l,(f x).length=n)(h:i<l.length):∃A B,l.flatMap f=A++(f l[i]++B)/\A.length=i*n/\∀y,(l.set i y).flatMap f=A++(f y++B):=by
 refine⟨(l.take i).flatMap f,(l.drop (i+1)).flatMap f,?_,?_,fun y=>?_⟩
 grind[take_append_drop,drop_eq_getElem_cons]
 grind[aeu,length_take]
 simp_all[set_eq_take_append_cons_drop]
theorem Ib(aM:∀x∈l,(f x).length=n)(h:i<l.length)(hm:o+m<=n):((l.flatMap f).drop (i*n+o)).take m=((f l[i]).drop o).take m:=by obtain⟨A,B,e,bn,_⟩:=R1 aM h;have aD:=aM _ (getElem_mem h);rw[e,<- drop_drop,<- bn,drop_left,drop_append_of_le_length (by omega),take_append_of_le_length (by grind)]
theorem Mi(aM:∀x∈l,(f x).length=n)(h:i<l.length){y:α}{cY:List Value}(hm:o+cY.length<=n)(ba:f y=(f l[i]).take o++(cY++(f l[i]).drop (o+cY.length))):
  (l.flatMap f).take (i*n+o)++(cY++(l.flatMap f).drop (i*n+o+cY.length))=(l.set i y).flatMap f:=by
 obtain⟨A,B,e,bn,al⟩:=R1 aM h;have aD:=aM _ (getElem_mem h);rw[al,ba,e,<- bn];have a7:(A++(f l[i]++B)).take (A.length+o)=A++(f l[i]).take o:=by grind[take_length_add_append]
 grind[drop_length_add_append]
theorem R2(aM:∀x∈l,(f x).length=n)(h:i<l.length)(hm:o<n):(l.flatMap f)[i*n+o]?=(f l[i])[o]?:=by
 obtain⟨A,B,e,bn,_⟩:=R1 aM h
 grind
end
theorem _root_.Go.Ab.aj.oi{A B:List (Nat×ax)}(h:aj H ((ae++A)++B)):aj H ((ae++B)++A):=h.fj (by rw[append_assoc,append_assoc];exact List.Perm.append_left ae perm_append_comm)
theorem aev{size bytes n q c:Nat}{aq cY:List Value}{b:Bool}(hO:aj H ((ae++bQ v aq)++[(q,⟨cY,b⟩)]))(hv:iV size v n aq)(al:cY.length=size)(bJ:0<size)(h1:cY.all eL=true)
  (U:(n+1)*bytes<=140737488355328) (jC:n+1<=9223372036854775807)
  (ah:∀cI ab,aj ab (ae++[(cI,⟨aq++cY,true⟩)])->iV size (aC cI 0 (n+1) (2*size)) (n+1) (aq++cY)->aa (aC cI 0 (n+1) (2*size)) ab):af (gw size bytes v (aC q 0 1 c) H) aa:=by
 have dF:=hO.oi;refine Qy dF hv bJ (m:=1) rfl (cY:=cY) ?_ (by omega) U jC h1 (by omega) ?_;have hg:=hO.at ((ae++bQ v aq).length+0) (az rfl) (b:=⟨cY,b⟩) (.inr (by grind))
 simp_all[HH,take_of_length_le]
 intro cI ab ju jT;refine ah _ _ ?_ jT;show aj ab (ae++[(cI,⟨aq++cY,true⟩)]);exact aj.sub ju (List.Sublist.append (sublist_append_left _ _) (List.Sublist.refl _))
theorem FO{size bytes n q c:Nat}{aq cY:List Value}{b:Bool}(hO:aj H ((ae++bQ v aq)++[(q,⟨cY,b⟩)]))(hv:iV size v n aq)(al:cY.length=size)(bJ:0<size)(h1:cY.all eL=true)
  (U:(n+1)*bytes<=140737488355328) (jC:n+1<=9223372036854775807)
  (ah:∀aQ ab,aj ab (ae++bQ aQ (aq++cY))->iV size aQ (n+1) (aq++cY)->aa aQ ab):af (gw size bytes v (aC q 0 1 c) H) aa:=
 aev hO hv al bJ h1 U jC fun cI ab h1 h2=>ah _ _ h1 h2
abbrev pj(s:List Int):Value:=agg (bd s)
def jG:List Int:=List.replicate 64 255
def tz:List Int:=List.replicate 64 0
theorem oR(s:List Int):(bd s).length=s.length:=by simp[bd]
theorem mn(s:List Int):(bd s).all eL=true:=by simp[bd,eL]
theorem A9(xs:List Int):(bd xs).all fY=true:=by simp[fY,uo]
theorem C8:df P 102=bd tz:=by rfl
theorem R3:(dq P 102).f []=some (pj tz):=by rfl
def aew:List pS:=List.replicate 64 (.i .u8)
theorem auE:rW P 100 102=some aew:=by rfl
theorem R4:∀(s:List Int),ko (List.replicate s.length (.i .u8)) (bd s)
 | []=>trivial
 | _::s=>⟨rfl,R4 s⟩
theorem aex{s:List Int}(h:s.length=64):ko aew (bd s):=by have:=R4 s;rw[h]at this;exact this
theorem Mj:∀(a b:List Int),pg (bd a) (bd b)=decide (a=b)
 | [],[]=>rfl
 | [],_::_=>rfl
 | _::_,[]=>rfl
 | x::a,y::b=>by
  show(decide (x=y)&&pg (bd a) (bd b))=_
  simp_all[Mj]
theorem aey{a b:List Int}(c:Bool)(bn:a.length=64)(ak:b.length=64):(ar P .neq 102 c).f (pj a) (pj b)=some (.bool (decide (a≠b))):=by rw[YZ auE (by rfl) (by rfl) (aex bn) (aex ak),Mj];simp
theorem auF{y:Nat}(h:y<64):(bd (List.replicate y 255++List.replicate (64-y) 0)).set (0+((y:Int)).toNat*1) (.int .u8 255)=bd (List.replicate (y+1) 255++List.replicate (64-(y+1)) 0):=by
 have e:0+((y:Int)).toNat*1=y:=by omega
 rw[e,show 64-y=(64-(y+1))+1 by omega,replicate_succ];have bt:bd (List.replicate y 255++0::List.replicate (64-(y+1)) 0)=bd (List.replicate y 255)++(.int .u8 0::bd (List.replicate (64-(y+1)) 0)):=by simp[bd]
 simp_all[replicate_succ']
theorem FP(hO:aj H ae)(ah:∀ab,aj ab ae->aa (pj jG) ab):ay P 116 [] H aa:=by
 apply ar3;unfold abP;rw[C8];refine dH hO ?_;intro dM H hO;refine dH hO ?_;intro dx H hO;rw[append_assoc]at hO;refine ar2 (fun k aA ab=>∃y:Nat,y<=64/\k=64-y/\aA=[ai dM 0,ai dx 0,int y]/\aj ab (ae++[(dM,⟨bd tz,true⟩),(dx,⟨bd (List.replicate y 255++List.replicate (64-y) 0),true⟩)])) _ _ ?_ 64 _ _ ⟨0,by omega,rfl,rfl,hO⟩;rintro k aA ab ⟨y,ba,rfl,rfl,hO⟩;unfold abO
 try simp only[cj,ck]
 repeat refine bH ?_
 refine bF (fun h=>?_) (fun h=>?_);have gR:y<64:=by omega
 refine ag (fX (by omega) (by omega)) (fR hO (ae.length+1) (az rfl) rfl (by simp_all) (auF gR) ?_);intro H hO
 repeat refine bH ?_
 exact⟨_,by omega,y+1,by omega,rfl,rfl,hO.cD⟩;have e:y=64:=by omega
 subst e
 repeat refine CR ?_
 refine gh hO (ae.length+1) (az rfl) (by rfl) (by omega) (fT hO (ae.length+0) (az rfl) (by rfl) (by rfl) (mn _) ?_);intro H hO;exact gh hO (ae.length+0) (by rw[Go.Ab.cD];exact az rfl) (by rfl) (by omega) (ah _ (hO.cD).left)
end J
namespace J
open Go Go.Ab
variable[cu:b0]
variable{H:au}{ae:List (Nat×ax)}{aa:VH}{w x:Value}{j:Nat}{e:Int}
structure Cell where
 vI:List Int
 eR:List Int
 ji:Int
structure bK where
 cells:List Cell
 done:List (Nat×List Int)
 iz:Int
 gK:Int
 gm:Bool
def k7(c:Cell):List Value:=bd c.vI++(bd c.eR++[int c.ji])
def j2(l:List Cell):List Value:=l.flatMap k7
def sJ(c:Nat×List Int):List Value:=int c.1::bd c.2
def pU(l:List (Nat×List Int)):List Value:=l.flatMap sJ
structure Cell.b4 (c:Cell):Prop where
 k:c.vI.length=64
 s:c.eR.length=64
 w:0<=c.ji/\c.ji<=100000
structure bK.b4 (d:bK):Prop where
 c:∀c∈d.cells,c.b4
 n:d.cells.length<=4096
 ds:∀x∈d.done,x.1<d.cells.length/\x.2.length=64
 m:d.iz<=100000
 b:-1<=d.gK/\d.gK<=9223372036854775807
theorem xa{c:Cell}(h:c.b4):(k7 c).length=129:=by simp[k7,oR,h.k,h.s]
theorem Mk{c:Nat×List Int}(h:c.2.length=64):(sJ c).length=65:=by simp_all[sJ]
theorem auG(c:Cell):(k7 c).all fY=true:=by simp[k7,fY,uo]
theorem auH(c:Cell):(k7 c).all eL=true:=by simp[k7,bd,eL]
theorem auI(c:Nat×List Int):(sJ c).all eL=true:=by simp[sJ,bd,eL]
theorem auJ(l:List Cell):(j2 l).all fY=true:=by simp_all[j2,auG]
theorem aez{l:List Cell}(h:∀c∈l,c.b4):(j2 l).length=l.length*129:=aeu fun c aB=>xa (h c aB)
def jL(c0:Nat)(dQ:Value)(d:bK):List Value:=[aC c0 0 d.cells.length 259,dQ,int d.iz,int d.gK,.bool d.gm]
abbrev ia(bl c0:Nat)(dQ:Value)(d:bK):List (Nat×ax):=[(bl,⟨jL c0 dQ d,true⟩),(c0,⟨j2 d.cells,true⟩)]++bQ dQ (pU d.done)
abbrev yj(dQ:Value)(d:bK):Prop:=iV 65 dQ d.done.length (pU d.done)
def bK.hC(d:bK)(k4:Int):Prop:=0<=k4/\k4<d.cells.length
instance (d:bK) (k4:Int):Decidable (d.hC k4):=by unfold bK.hC;infer_instance
variable{bl c0:Nat}{dQ:Value}{d:bK}{a:Int}
theorem auK(hO:aj H ae)(bm:ae[j]?=some (bl,⟨jL c0 dQ d,true⟩))(ah:aa (int d.cells.length) H):ay P 115 [ai bl 0] H aa:=by
 apply ar1;unfold abM
 repeat refine bH ?_
 refine aY hO j bm rfl ?_
 repeat refine tq ?_
 exact ah
theorem R5(hO:aj H ae)(bm:ae[j]?=some (bl,⟨jL c0 dQ d,true⟩))(tu:d.hC a->aa (ai c0 (a.toNat*129)) H)(hU:¬d.hC a->aa (.pointer none) H):ay P 174 [ai bl 0,int a] H aa:=by
 apply asN;unfold acE;refine e3 (fun aA ab=>aA=[ai bl 0,int a]/\ab=H/\d.hC a) ?_ ?_
 repeat refine bH ?_
 refine bF (fun h=>?_) (fun h=>?_)
 repeat (first|refine bH ?_|refine kA ?_)
 exact hU fun aT=>by have:=aT.1;omega
 repeat refine bH ?_
 refine aY hO j bm rfl ?_
 repeat (first|refine bH ?_|refine tq ?_)
 refine bF (fun h2=>?_) (fun h2=>?_);exact hU fun aT=>by have:=aT.2;omega
 exact⟨rfl,rfl,by omega,by omega⟩;rintro aA ab ⟨rfl,rfl,h⟩
 try simp only[cj,ck]
 repeat refine bH ?_
 refine aY hO j bm rfl (ag (jD h.1 h.2) ?_);rw[Nat.zero_add];exact tu h
def iW:Cell:=⟨tz,tz,0⟩
def bK.cell(d:bK)(a:Int):Cell:=d.cells.getD a.toNat iW
theorem bK.get{d:bK}{a:Int}(h:d.hC a):∃an:a.toNat<d.cells.length,d.cells[a.toNat]=d.cell a:=by
 have an:a.toNat<d.cells.length:=by have:=h.1;have:=h.2;omega
 simp_all[bK.cell]
theorem bK.sK{d:bK}{a:Int}(ok:∀c∈d.cells,c.b4)(h:d.hC a):(d.cell a).b4:=by obtain⟨an,e⟩:=bK.get h;rw[<- e];exact ok _ (getElem_mem an)
theorem aeA{d:bK}{a:Int}(ok:∀c∈d.cells,c.b4)(h:d.hC a):((j2 d.cells).drop (a.toNat*129+64)).take 64=bd (d.cell a).eR:=by obtain⟨an,e⟩:=bK.get h;unfold j2;rw[Ib (fun c aB=>xa (ok c aB)) an (by omega),e];have ah:=(bK.sK ok h);unfold k7;rw[drop_left' (by rw[oR];exact ah.k),take_left' (by rw[oR];exact ah.s)]
theorem aeB{d:bK}{a:Int}(ok:∀c∈d.cells,c.b4)(h:d.hC a):(j2 d.cells)[a.toNat*129+128]?=some (int (d.cell a).ji):=by obtain⟨an,e⟩:=bK.get h;unfold j2;rw[R2 (fun c aB=>xa (ok c aB)) an (by omega),e];have ah:=(bK.sK ok h);unfold k7;rw[<- append_assoc,List.getElem?_append_right (by simp[oR,ah.k,ah.s])];simp[oR,ah.k,ah.s]
def bK.fU(d:bK)(a:Int):List Int×Int:=if d.hC a then((d.cell a).eR,0)else(tz,61)
theorem auL(ok:∀c∈d.cells,c.b4)(hO:aj H (ae++ia bl c0 dQ d))(ah:∀ab,aj ab (ae++ia bl c0 dQ d)->aa (.tuple [pj (d.fU a).1,int (d.fU a).2].toArray) ab):ay P 150 [ai bl 0,int a] H aa:=by
 apply asF;unfold acu;rw[C8];refine dH hO ?_;intro c1 H hO;refine R5 hO (aL (az (k:=0) rfl)) ?_ ?_;intro h;unfold bK.fU at ah;rw[if_pos h]at ah;refine ag (show(ar P .eql 296 true).f _ _=some (.bool false)from rfl) ?_
 repeat (first|refine bH ?_|refine x9 ?_)
 refine iH hO (ae.length+1) (aL (az rfl)) (aeA ok h) (by rw[oR];exact(bK.sK ok h).s) (by omega) (fT hO ((ae++ia bl c0 dQ d).length+0) (az rfl) (by rfl) (by rw[oR];exact(bK.sK ok h).s) (mn _) ?_);intro H hO
 replace hO:=hO.cD
 exact gh hO ((ae++ia bl c0 dQ d).length+0) (az rfl) (by rw[oR];exact(bK.sK ok h).s) (by omega) (ah _ hO.left);intro h;unfold bK.fU at ah;rw[if_neg h]at ah;refine ag (show(ar P .eql 296 true).f _ _=some (.bool true)from rfl) ?_
 repeat refine kA ?_
 refine ag R3 (fT hO ((ae++ia bl c0 dQ d).length+0) (az rfl) (by rfl) (by rfl) (mn _) ?_);intro H hO
 replace hO:=hO.cD
 exact gh hO ((ae++ia bl c0 dQ d).length+0) (az rfl) (by rfl) (by omega) (ah _ hO.left)
def bK.step(d:bK):bK:={d with gm:=d.gm||decide (d.gK=0),gK:=if¬(d.gm=true\/d.gK=0)/\0<d.gK then d.gK-1 else d.gK}
theorem auM(ak:-1<=d.gK/\d.gK<=9223372036854775807)(hO:aj H ae)(bm:ae[j]?=some (bl,⟨jL c0 dQ d,true⟩))(ah:∀ab,aj ab (ae.set j (bl,⟨jL c0 dQ d.step,true⟩))->aa (.bool !d.step.gm) ab):ay P 175 [ai bl 0] H aa:=by
 apply asO;unfold acF;have rL:=(List.getElem?_eq_some_iff.1 bm).1;refine e3 (fun aA ab=>aA=[ai bl 0]/\aj ab (ae.set j (bl,⟨jL c0 dQ {d with gm:=d.gm||decide (d.gK=0)},true⟩))) ?_ ?_
 repeat refine bH ?_
 refine aY hO j bm rfl ?_;cases aO:d.gm with
 | true=>
  repeat (first|refine bH ?_|refine kA ?_)
  refine fR hO j bm rfl (show 4<5 by omega) rfl ?_;intro H hO;refine⟨rfl,?_⟩;simp only[Bool.true_or];exact hO
 | false=>
  repeat (first|refine bH ?_|refine x9 ?_)
  refine aY hO j bm rfl ?_
  repeat refine bH ?_
  refine fR hO j bm rfl (show 4<5 by omega) rfl ?_;intro H hO;refine⟨rfl,?_⟩;simp only[Bool.false_or];exact hO
 rintro aA H ⟨rfl,hO⟩
 try simp only[cj,ck]
 have E9:(ae.set j (bl,(⟨jL c0 dQ {d with gm:=d.gm||decide (d.gK=0)},true⟩:ax)))[j]?=some (bl,⟨jL c0 dQ {d with gm:=d.gm||decide (d.gK=0)},true⟩):=List.getElem?_set_self rL;refine e3 (fun aA ab=>aA=[ai bl 0]/\aj ab (ae.set j (bl,⟨jL c0 dQ d.step,true⟩))) ?_ ?_;refine e3 (fun aA ab=>aA=[ai bl 0,.bool (decide (¬(d.gm=true\/d.gK=0)/\0<d.gK))]/\ab=H) ?_ ?_
 repeat refine bH ?_
 refine aY hO j E9 rfl (ag ix ?_);by_cases aO:d.gm=true\/d.gK=0;have e:(d.gm||decide (d.gK=0))=true:=by simp_all
 rw[show(!({d with gm:=d.gm||decide (d.gK=0)}:bK).gm)=false by grind]
 repeat (first|refine bH ?_|refine x9 ?_)
 exact⟨by simp_all,rfl⟩;have e:(d.gm||decide (d.gK=0))=false:=by simp_all
 rw[show(!({d with gm:=d.gm||decide (d.gK=0)}:bK).gm)=true by simp_all]
 repeat (first|refine bH ?_|refine kA ?_)
 refine aY hO j E9 rfl ?_
 repeat refine bH ?_
 refine⟨?_,rfl⟩
 simp_all
 rintro aA ab ⟨rfl,rfl⟩
 try simp only[cj,ck]
 refine bF (fun h=>?_) (fun h=>?_)
 repeat refine bH ?_
 refine aY hO j E9 rfl (ag (ob (by grind) (by grind)) ?_)
 repeat refine bH ?_
 refine fR hO j E9 rfl (show 3<5 by omega) rfl ?_;intro H hO;rw[set_set]at hO;refine⟨trivial,?_⟩;have e:d.step={d with gm:=d.gm||decide (d.gK=0),gK:=d.gK-1}:=by simp_all[bK.step]
 rw[e];exact hO
 simp_all[bK.step,if_neg]
 rintro aA H ⟨rfl,hO⟩
 try simp only[cj,ck]
 repeat refine bH ?_
 refine aY hO j (List.getElem?_set_self rL) rfl ?_
 repeat refine bH ?_
 exact ah _ hO
end J
namespace J
open Go Go.Ab
variable[cu:b0]
variable{H:au}{ae:List (Nat×ax)}{aa:VH}{p:Nat}{e:Int}
variable{bl c0:Nat}{dQ:Value}{d:bK}{a:Int}{s:List Int}
theorem Ml(h:s.length=64):∃g:Nat->Int,s=(List.range 64).map g:=⟨fun i=>s.getD i 0,by
 apply ext_getElem?
 grind⟩
theorem auN(a:Int)(g:Nat->Int):(dq P 300).f [(0,int a),(1,pj ((List.range 64).map g))]=some (agg (int a::bd ((List.range 64).map g))):=by rfl
theorem auO(a:Int)(h:s.length=64):(dq P 300).f [(0,int a),(1,pj s)]=some (agg (int a::bd s)):=by grind[Ml,auN]
theorem auP(a:Int)(g:Nat->Int)(H:au):(eV P 170 1).f [(0,agg (int a::bd ((List.range 64).map g)))] H=some (aC H.next 0 1 131,H.push (int a::bd ((List.range 64).map g))):=by rfl
theorem auQ(a:Int)(h:s.length=64)(H:au):(eV P 170 1).f [(0,agg (int a::bd s))] H=some (aC H.next 0 1 131,H.push (int a::bd s)):=by grind[Ml,auP]
theorem auR(g CE:Nat->Int):(dq P 234).f [(0,pj ((List.range 64).map g)),(1,pj ((List.range 64).map CE))]=some (agg (k7 ⟨(List.range 64).map g,(List.range 64).map CE,0⟩)):=by kernel_rfl
theorem auS{s cl:List Int}(h:s.length=64)(aT:cl.length=64):(dq P 234).f [(0,pj s),(1,pj cl)]=some (agg (k7 ⟨s,cl,0⟩)):=by grind[Ml,auR]
theorem auT:df P 300=int 0::bd tz:=by rfl
def bK.iE(d:bK)(a:Int)(c:Cell):bK:={d with cells:=d.cells.set a.toNat c}
def bK.put(d:bK)(a:Int)(s:List Int):bK:={d with cells:=d.cells.set a.toNat {d.cell a with eR:=s},done:=d.done++[(a.toNat,s)]}
theorem auU{c:Cell}(ok:c.b4)(h:s.length=64):k7 {c with eR:=s}=(k7 c).take 64++(bd s++(k7 c).drop (64+(bd s).length)):=by unfold k7;rw[take_left' (by rw[oR];exact ok.k),<- drop_drop,drop_left' (by rw[oR];exact ok.k),drop_left' (by rw[oR,oR,ok.s,h])]
theorem auV{c:Cell}(ok:c.b4)(h:s.length=64):k7 {c with vI:=s}=(k7 c).take 0++(bd s++(k7 c).drop (0+(bd s).length)):=by unfold k7;rw[take_zero,nil_append,Nat.zero_add,drop_left' (by rw[oR,oR,ok.k,h])]
theorem auW{c:Cell}(ok:c.b4)(n:Int):k7 {c with ji:=n}=(k7 c).take 128++([int n]++(k7 c).drop (128+[int n].length)):=by
 have e:k7 c=(bd c.vI++bd c.eR)++[int c.ji]:=by simp[k7]
 have l:(bd c.vI++bd c.eR).length=128:=by simp[oR,ok.k,ok.s]
 grind[k7]
theorem auX(ok:∀c∈d.cells,c.b4)(h:d.hC a)(al:s.length=64):(j2 d.cells).take (a.toNat*129+64)++(bd s++(j2 d.cells).drop (a.toNat*129+64+(bd s).length))=j2 (d.cells.set a.toNat {d.cell a with eR:=s}):=by obtain⟨an,e⟩:=bK.get h;have fq:=bK.sK ok h;exact Mi (fun c aB=>xa (ok c aB)) an (by simp_all) (by simp_all[auU])
theorem auY(ok:∀c∈d.cells,c.b4)(h:d.hC a)(al:s.length=64):(j2 d.cells).take (a.toNat*129+0)++(bd s++(j2 d.cells).drop (a.toNat*129+0+(bd s).length))=j2 (d.cells.set a.toNat {d.cell a with vI:=s}):=by obtain⟨an,e⟩:=bK.get h;have fq:=bK.sK ok h;exact Mi (fun c aB=>xa (ok c aB)) an (by simp_all) (by simp_all[auV])
theorem auZ(ok:∀c∈d.cells,c.b4)(h:d.hC a)(n:Int):(j2 d.cells).take (a.toNat*129+128)++([int n]++(j2 d.cells).drop (a.toNat*129+128+1))=j2 (d.cells.set a.toNat {d.cell a with ji:=n}):=by obtain⟨an,e⟩:=bK.get h;have fq:=bK.sK ok h;exact Mi (fun c aB=>xa (ok c aB)) an (by simp) (by simp_all[auW])
theorem R6(ok:∀c∈d.cells,c.b4)(h:d.hC a):a.toNat*129+129<=(j2 d.cells).length:=by rw[aez ok];have:=h.1;have:=h.2;omega
theorem aeC(ok:d.b4)(h:d.hC a)(al:s.length=64)(aO:d.done.length<=1000000)(hO:aj H (ae++ia bl c0 dQ d))(hv:yj dQ d)
  (ah:∀ab mo,aj ab (ae++ia bl c0 mo (d.put a s))->yj mo (d.put a s)->aa (.tuple [].toArray) ab):ay P 176 [ai bl 0,int a,pj s] H aa:=by
 apply asP;unfold acG;refine dH hO ?_;intro fK H hO
 replace hO:aj H ((ae++[(fK,⟨bd s,true⟩)])++ia bl c0 dQ d):=aj.oi hO
 have od:(ae++[(fK,(⟨bd s,true⟩:ax))])[ae.length+0]?=some (fK,⟨bd s,true⟩):=az rfl;have dy:∀ {H:au} {b9:List (Nat×ax)},aj H ((ae++[(fK,⟨bd s,true⟩)])++b9)->aj H (ae++b9):=fun h=>aj.ca h
 generalize ae++[(fK,(⟨bd s,true⟩:ax))]=h9 at hO od dy
 repeat refine bH ?_
 refine aY hO (h9.length+0) (az rfl) rfl (gh hO (ae.length+0) (aL od) (by simp_all) (by omega) (ag (jD h.1 h.2) ?_))
 repeat refine bH ?_
 rw[Nat.zero_add];refine pR hO (h9.length+1) (az rfl) (show(bd s).length=64 by simp_all) (by have:=R6 ok.c h;omega) (mn s) ?_;intro H hO;have a7:(j2 d.cells).take (a.toNat*129+64)++(bd s++(j2 d.cells).drop (a.toNat*129+64+64))=j2 (d.iE a {d.cell a with eR:=s}).cells:=by have:=auX ok.c h al;rw[oR,al]at this;exact this
 have rT:(d.iE a {d.cell a with eR:=s}).cells.length=d.cells.length:=length_set
 replace hO:aj H (h9++ia bl c0 dQ (d.iE a {d.cell a with eR:=s})):=by
  have h3:aj H (h9++([(bl,⟨jL c0 dQ d,true⟩),(c0,⟨(j2 d.cells).take (a.toNat*129+64)++(bd s++(j2 d.cells).drop (a.toNat*129+64+64)),true⟩)]++bQ dQ (pU d.done))):=hO.cD;have bt:jL c0 dQ d=jL c0 dQ (d.iE a {d.cell a with eR:=s}):=by unfold jL;rw[rT];rfl
  rw[a7,bt]at h3;exact h3
 repeat refine bH ?_
 refine aY hO (h9.length+0) (az rfl) rfl (gh hO (ae.length+0) (aL od) (by simp_all) (by omega) (ag (auO a al) ?_));have ju:aj H ((h9++[(bl,⟨jL c0 dQ (d.iE a {d.cell a with eR:=s}),true⟩),(c0,⟨j2 (d.iE a {d.cell a with eR:=s}).cells,true⟩)])++bQ dQ (pU d.done)):=by rw[append_assoc];exact hO
 refine ik ju (auQ a al _) ?_;intro q H hO;have bn:a=((a.toNat:Nat):Int):=by have:=h.1;omega
 refine FO hO hv (by grind) (by omega) (by simp[bd,eL]) (by omega) (by omega) ?_;intro mo H hO jT;rw[append_assoc]at hO
 repeat refine bH ?_
 obtain⟨cU,fo,dg,a7⟩:∃cU fo dg,mo=.slice cU fo dg:=by rcases jT with⟨_,h,_⟩|⟨p,rfl|rfl,_⟩;omega;exact⟨_,_,_,rfl⟩;grind
 refine fR hO (h9.length+0) (az rfl) (by rw[a7];rfl) (show 1<5 by omega) rfl ?_;intro H hO;have au0:pU d.done++(int a::bd s)=pU (d.put a s).done:=by show _=(d.done++[(a.toNat,s)]).flatMap sJ;rw[flatMap_append];show _=d.done.flatMap sJ++(int ((a.toNat:Nat):Int)::bd s++[]);rw[<- bn,append_nil];rfl
 have h3:=dy hO.cD;rw[au0]at h3 jT;refine ah _ mo h3 ?_;show iV 65 mo (d.done++[(a.toNat,s)]).length _;rw[length_append];exact jT
end J
namespace J
open Go Go.Ab
variable[cu:b0]
variable{H:au}{ae:List (Nat×ax)}{aa:VH}{w x:Value}{j:Nat}
variable{bl c0:Nat}{dQ:Value}{d:bK}{a:Int}{s:List Int}
theorem bK.wU(ok:d.b4):d.step.b4:=⟨ok.c,ok.n,ok.ds,ok.m,by
 have:=ok.b;unfold bK.step
 grind⟩
theorem R7{l:List Cell}{i:Nat}{c:Cell}(h:∀c∈l,c.b4)(aB:c.b4):∀x∈l.set i c,x.b4:=by
 intro x ao;rcases mem_or_eq_of_mem_set ao with aT|aT
 exact h x aT;rw[aT];exact aB
theorem bK.Kp{c:Cell}(ok:d.b4)(aB:c.b4):(d.iE a c).b4:=⟨R7 ok.c aB,by show(d.cells.set _ _).length<=_;rw[length_set];exact ok.n,by intro x ao;show x.1<(d.cells.set _ _).length/\_;rw[length_set];exact ok.ds x ao,ok.m,ok.b⟩
theorem bK.xU(ok:d.b4)(h:d.hC a)(al:s.length=64):(d.put a s).b4:=by
 have aB:=bK.sK ok.c h;refine⟨R7 ok.c ⟨aB.k,al,aB.w⟩,by show(d.cells.set _ _).length<=_;rw[length_set];exact ok.n,?_,ok.m,ok.b⟩;intro x ao;show x.1<(d.cells.set _ _).length/\_;rw[length_set];rcases mem_append.1 ao with ao|ao
 exact ok.ds x ao;have:x=(a.toNat,s):=by simp_all
 subst this;exact⟨by have:=h.1;have:=h.2;omega,al⟩
def bK.eF(d:bK)(a:Int):bK×Int:=
 if¬d.hC a then(d,61)else if d.gm=true then(d,62)else if d.iz<=(d.cell a).ji then(d,64)else if d.step.gm=true then(d.step,62)
 else((d.step.iE a {d.cell a with ji:=(d.cell a).ji+1}).put a jG,0)
def bK.fE(d:bK)(a:Int)(s:List Int):bK×Int:=
 if¬d.hC a then(d,61)else if d.gm=true then(d,62)else if(d.cell a).eR≠jG then(d,63)else if d.step.gm=true then(d.step,62)
 else(d.step.put a s,0)
theorem bK.aeD{c:Cell}:(d.iE a c).hC a↔d.hC a:=by grind[bK.hC,bK.iE]
theorem bK.R8(ok:d.b4):(d.eF a).1.b4:=by
 unfold bK.eF;by_cases h:d.hC a;rw[if_neg (fun aT=>aT h)];split;exact ok;split;exact ok;split;exact bK.wU ok;rename_i h1 h2 h3;have aB:=bK.sK ok.c h;have aM:=aB.w;have hm:=ok.m;refine bK.xU (bK.Kp (bK.wU ok) ⟨aB.k,aB.s,?_⟩) (bK.aeD.2 h) rfl
 grind
 rw[if_pos h];exact ok
theorem bK.R9(ok:d.b4)(al:s.length=64):(d.fE a s).1.b4:=by unfold bK.fE;by_cases h:d.hC a;rw[if_neg (fun aT=>aT h)];split;exact ok;split;exact ok;split;exact bK.wU ok;exact bK.xU (bK.wU ok) h al;rw[if_pos h];exact ok
theorem Sa(ok:d.b4)(hO:aj H (ae++ia bl c0 dQ d))(ah:∀ab,aj ab (ae++ia bl c0 dQ d.step)->aa (.bool !d.step.gm) ab):ay P 175 [ai bl 0] H aa:=by refine auM ok.b hO (j:=ae.length+0) (az rfl) ?_;intro ab h;exact ah ab h.cD
theorem au1(ok:d.b4)(aO:d.done.length<=1000000)(hO:aj H (ae++ia bl c0 dQ d))(hv:yj dQ d)
  (ah:∀ab mo,aj ab (ae++ia bl c0 mo (d.eF a).1)->yj mo (d.eF a).1->aa (int (d.eF a).2) ab):ay P 262 [ai bl 0,int a] H aa:=by
 apply at1;unfold ad0;unfold bK.eF at ah;refine R5 hO (az (k:=0) rfl) ?_ ?_
 ·intro h;rw[if_neg (fun aT=>aT h)]at ah;refine ag (show(ar P .eql 296 true).f _ _=some (.bool false)from rfl) ?_
  repeat (first|refine bH ?_|refine x9 ?_)
  refine aY hO (ae.length+0) (az rfl) rfl (qj (fun ak=>?_) (fun ak=>?_))
  ·rw[if_pos ak]at ah;exact ah _ _ hO hv
  rw[if_neg (by grind)]at ah
  repeat refine bH ?_
  refine aY hO (ae.length+1) (az rfl) (aeB ok.c h) ?_
  repeat refine bH ?_
  refine aY hO (ae.length+0) (az rfl) rfl (ag um (bF (fun h1=>?_) (fun h1=>?_)))
  ·rw[if_pos h1]at ah;exact ah _ _ hO hv
  rw[if_neg h1]at ah;refine Sa ok hO ?_;intro H hO;refine ag ix ?_;rw[Bool.not_not];refine qj (fun h2=>?_) (fun h2=>?_)
  ·rw[if_pos h2]at ah;exact ah _ _ hO hv
  rw[if_neg (by grind)]at ah;have Ba:=bK.wU ok;have aM:=(bK.sK ok.c h).w
  repeat refine bH ?_
  refine aY hO (ae.length+1) (az rfl) (aeB (d:=d.step) Ba.c h) (ag (jg (by show _<=(d.cell a).ji+1;omega) (by show(d.cell a).ji+1<=_;omega)) ?_)
  repeat refine bH ?_
  refine pR hO (ae.length+1) (az rfl) (show([int ((d.cell a).ji+1)]:List Value).length=1 from rfl) (by have:=R6 Ba.c (d:=d.step) h;omega) rfl ?_;intro H hO;have a7:=auZ (d:=d.step) Ba.c h ((d.cell a).ji+1)
  replace hO:aj H (ae++ia bl c0 dQ (d.step.iE a {d.cell a with ji:=(d.cell a).ji+1})):=by
   have h3:aj H (ae++([(bl,⟨jL c0 dQ d.step,true⟩),(c0,⟨(j2 d.step.cells).take (a.toNat*129+128)++([int ((d.cell a).ji+1)]++(j2 d.step.cells).drop (a.toNat*129+128+1)),true⟩)]++bQ dQ (pU d.done))):=hO.cD;have bt:jL c0 dQ d.step=jL c0 dQ (d.step.iE a {d.cell a with ji:=(d.cell a).ji+1}):=by unfold jL;rw[show(d.step.iE a {d.cell a with ji:=(d.cell a).ji+1}).cells.length=d.step.cells.length from length_set];rfl
   rw[a7,bt]at h3;exact h3
  have Mm:(d.step.iE a {d.cell a with ji:=(d.cell a).ji+1}).b4:=by
   have aB:=bK.sK ok.c h;have hm:=ok.m;refine bK.Kp Ba ⟨aB.k,aB.s,?_⟩
   grind
  refine FP hO ?_;intro H hO;refine aeC Mm (bK.aeD.2 h) rfl aO hO hv ?_;intro H mo hO jT;exact ah _ _ hO jT
 ·intro h;rw[if_pos h]at ah;refine ag (show(ar P .eql 296 true).f _ _=some (.bool true)from rfl) ?_
  repeat refine kA ?_
  exact ah _ _ hO hv
theorem au2(ok:d.b4)(al:s.length=64)(aO:d.done.length<=1000000)(hO:aj H (ae++ia bl c0 dQ d))(hv:yj dQ d)
  (ah:∀ab mo,aj ab (ae++ia bl c0 mo (d.fE a s).1)->yj mo (d.fE a s).1->aa (int (d.fE a s).2) ab):ay P 119 [ai bl 0,int a,pj s] H aa:=by
 apply ar6;unfold abS;unfold bK.fE at ah;refine dH hO ?_;intro fK H hO
 replace hO:aj H ((ae++[(fK,⟨bd s,true⟩)])++ia bl c0 dQ d):=aj.oi hO
 have od:(ae++[(fK,(⟨bd s,true⟩:ax))])[ae.length+0]?=some (fK,⟨bd s,true⟩):=az rfl;have dy:∀ {H:au} {b9:List (Nat×ax)},aj H ((ae++[(fK,⟨bd s,true⟩)])++b9)->aj H (ae++b9):=fun h=>aj.ca h
 generalize ae++[(fK,(⟨bd s,true⟩:ax))]=h9 at hO od dy;refine R5 hO (az (k:=0) rfl) ?_ ?_
 ·intro h;rw[if_neg (fun aT=>aT h)]at ah;refine ag (show(ar P .eql 296 true).f _ _=some (.bool false)from rfl) ?_
  repeat (first|refine bH ?_|refine x9 ?_)
  refine aY hO (h9.length+0) (az rfl) rfl (qj (fun ak=>?_) (fun ak=>?_))
  ·rw[if_pos ak]at ah;exact ah _ _ (dy hO) hv
  rw[if_neg (by grind)]at ah
  repeat refine bH ?_
  refine iH hO (h9.length+1) (az rfl) (aeA ok.c h) (by rw[oR];exact(bK.sK ok.c h).s) (by omega) (FP hO ?_);intro cJ dF;refine⟨ho hO (h9.length+1) (az rfl) dF (h9.length+1) (az rfl) (auJ _),?_⟩;refine ag (aey _ (bK.sK ok.c h).s rfl) ?_;refine bF (fun h1=>?_) (fun h1=>?_)
  ·rw[if_pos h1]at ah;exact ah _ _ (dy dF) hv
  rw[if_neg h1]at ah;refine Sa ok dF ?_;intro H hO;refine ag ix ?_;rw[Bool.not_not];refine qj (fun h2=>?_) (fun h2=>?_)
  ·rw[if_pos h2]at ah;exact ah _ _ (dy hO) hv
  rw[if_neg (by grind)]at ah;refine gh hO (ae.length+0) (aL od) (by simp_all) (by omega) (aeC (bK.wU ok) h al aO hO hv ?_);intro H mo hO jT;exact ah _ _ (dy hO) jT
 ·intro h;rw[if_pos h]at ah;refine ag (show(ar P .eql 296 true).f _ _=some (.bool true)from rfl) ?_
  repeat refine kA ?_
  exact ah _ _ (dy hO) hv
end J
namespace J
open Go Go.Ab
variable[cu:b0]
variable{H:au}{ae:List (Nat×ax)}{aa:VH}{w x:Value}{p:Nat}
variable{bl c0:Nat}{dQ:Value}{d:bK}{s:List Int}
def uD(aq:List Cell)(x:Nat×List Int):List Cell:=aq.set x.1 {aq.getD x.1 iW with vI:=x.2}
def kb(aq:List Cell)(l:List (Nat×List Int)):List Cell:=l.foldl uD aq
theorem au3{aq:List Cell}{x:Nat×List Int}(h:∀c∈aq,c.b4)(ao:x.2.length=64)(aU:x.1<aq.length):∀c∈uD aq x,c.b4:=by
 refine R7 h ?_;have:(aq.getD x.1 iW).b4:=by rw[getD_eq_getElem?_getD,List.getElem?_eq_getElem aU];exact h _ (getElem_mem aU)
 exact⟨ao,this.s,this.w⟩
theorem C9:∀(l:List (Nat×List Int)) (aq:List Cell),(kb aq l).length=aq.length
 | [],_=>rfl
 | x::l,aq=>by show(kb (uD aq x) l).length=_;rw[C9 l];exact length_set
theorem Sb:∀(l:List (Nat×List Int)) (aq:List Cell),(∀c∈aq,c.b4)->(∀x∈l,x.1<aq.length/\x.2.length=64)->∀c∈kb aq l,c.b4
 | [],_,h,_=>h
 | x::l,aq,h,aD=>by
  have h1:=aD x mem_cons_self;refine Sb l (uD aq x) (au3 h h1.2 h1.1) ?_;intro y ba;show y.1<(aq.set _ _).length/\_
  grind
theorem au4{l:List (Nat×List Int)}{x:Nat×List Int}{aq:List Cell}:kb aq (l++[x])=uD (kb aq l) x:=by simp[kb]
def bK.jH(d:bK):bK×Int:=if d.gm=true then(d,62)else if d.step.gm=true then(d.step,62)else({d.step with cells:=kb d.cells d.done,done:=[]},0)
theorem bK.Sc(ok:d.b4):d.jH.1.b4:=by
 unfold bK.jH;split;exact ok;split;exact bK.wU ok;have Ba:=bK.wU ok;refine⟨Sb _ _ ok.c ok.ds,by show(kb _ _).length<=_;rw[C9];exact ok.n,?_,Ba.m,Ba.b⟩
 simp_all
theorem au5{dQ:Value}{l:List (Nat×List Int)}(hv:iV 65 dQ l.length (pU l)){y:Nat}(h:y<l.length):∃p c,dQ=aC p 0 l.length c/\bQ dQ (pU l)=[(p,⟨pU l,true⟩)]:=by
 rcases hv with⟨rfl,aJ,_⟩|⟨p,rfl|rfl,_⟩
 omega;exact⟨p,_,rfl,rfl⟩;exact⟨p,_,rfl,rfl⟩
theorem au6{l:List (Nat×List Int)}(aD:∀x∈l,x.2.length=64){y:Nat}(h:y<l.length):((pU l).drop (y*65)).take 65=sJ l[y]:=by
 have:=Ib (f:=sJ) (o:=0) (m:=65) (fun c aB=>Mk (aD c aB)) h (by omega);unfold pU;rw[Nat.add_zero]at this
 grind[Mk]
theorem au7{l:List Cell}{i:Nat}:l.getD i iW=({d with cells:=l}:bK).cell (i:Int):=by rfl
theorem au8(ok:d.b4)(aO:d.done.length<=1000000)(hO:aj H (ae++ia bl c0 dQ d))(hv:yj dQ d)
  (ah:∀ab mo,aj ab (ae++ia bl c0 mo d.jH.1)->yj mo d.jH.1->aa (int d.jH.2) ab):ay P 120 [ai bl 0] H aa:=by
 apply ar8;unfold abV;unfold bK.jH at ah;refine e3 (fun aA ab=>aA=[ai bl 0,int 0]/\d.gm=false/\d.step.gm=false/\aj ab (ae++ia bl c0 dQ d.step)) ?_ ?_
 ·repeat refine bH ?_
  refine aY hO (ae.length+0) (az rfl) rfl ?_;cases ak:d.gm with
  | true=>
   rw[if_pos ak]at ah
   repeat (first|refine bH ?_|refine kA ?_)
   exact ah _ _ hO hv
  | false=>
   rw[if_neg (by grind)]at ah;refine dP rfl (Sa ok hO ?_);intro H hO;refine ag ix (ag km ?_);rw[Bool.not_not];refine qj (fun h2=>?_) (fun h2=>?_)
   ·rw[if_pos h2]at ah;exact ah _ _ hO hv
   ·exact⟨rfl,rfl,h2,hO⟩
 rintro aA H ⟨rfl,ak,h2,hO⟩;rw[if_neg (by grind),if_neg (by grind)]at ah
 try simp only[cj,ck]
 repeat refine bH ?_
 refine aY hO (ae.length+0) (az rfl) rfl (bW hv.bO ?_);have Ba:=bK.wU ok;have au9:∀x∈d.done,x.2.length=64:=fun x ao=>(ok.ds x ao).2
 refine ar7 (fun k aA ab=>∃y:Nat,y<=d.done.length/\k=d.done.length-y/\aA=[ai bl 0,int 0,dQ,int d.done.length,int y]/\aj ab (ae++ia bl c0 dQ {d.step with cells:=kb d.cells (d.done.take y)})) _ _ ?_ d.done.length _ _ ⟨0,by omega,rfl,rfl,hO⟩;rintro k aA ab ⟨y,ba,rfl,rfl,hO⟩;unfold abU
 try simp only[cj,ck]
 repeat refine bH ?_
 refine bF (fun h=>?_) (fun h=>?_)
 ·have gR:y<d.done.length:=by omega
  obtain⟨p,c,a7,bt⟩:=au5 hv gR;have ao:=ok.ds _ (getElem_mem gR);have k2:(ia bl c0 dQ {d.step with cells:=kb d.cells (d.done.take y)})[2]?=some (p,⟨pU d.done,true⟩):=by
   show([_,_]++bQ dQ (pU d.done))[2]?=_
   grind
  rw[a7];refine ag (jD (by omega) (by omega)) ?_;rw[show 0+((y:Nat):Int).toNat*65=y*65 by omega];rw[<- a7];refine iH hO (ae.length+2) (az k2) (au6 au9 gR) (Mk ao.2) (by omega) ?_;rw[auT];refine dH hO ?_;intro c1 H hO;refine fT hO ((ae++ia bl c0 dQ {d.step with cells:=kb d.cells (d.done.take y)}).length+0) (az rfl) (by rfl) (Mk ao.2) (auI _) ?_;intro H hO
  replace hO:=aj.oi hO.cD
  replace hO:aj H ((ae++[(c1,⟨sJ d.done[y],true⟩)])++ia bl c0 dQ {d.step with cells:=kb d.cells (d.done.take y)}):=hO
  have i4:(ae++[(c1,(⟨sJ d.done[y],true⟩:ax))])[ae.length+0]?=some (c1,⟨sJ d.done[y],true⟩):=az rfl;have dy:∀ {H:au} {b9:List (Nat×ax)},aj H ((ae++[(c1,⟨sJ d.done[y],true⟩)])++b9)->aj H (ae++b9):=fun h=>aj.ca h
  generalize ae++[(c1,(⟨sJ d.done[y],true⟩:ax))]=h9 at hO i4 dy
  repeat refine bH ?_
  refine aY hO (h9.length+0) (az rfl) rfl ?_
  repeat refine bH ?_
  refine aY hO (ae.length+0) (aL i4) rfl ?_
  repeat refine bH ?_
  refine iH hO (ae.length+0) (aL i4) (show((sJ d.done[y]).drop 1).take 64=bd d.done[y].2 from ?_) (by simp_all) (by omega) ?_
  ·show(bd d.done[y].2).take 64=_
   simp_all[take_of_length_le]
  have hh:({d.step with cells:=kb d.cells (d.done.take y)}:bK).hC (d.done[y].1:Int):=⟨by omega,by grind[C9]⟩;have Mm:∀c∈kb d.cells (d.done.take y),c.b4:=Sb _ _ ok.c (fun x ao=>ok.ds x (mem_of_mem_take ao));refine ag (jD hh.1 hh.2) ?_
  repeat refine bH ?_
  rw[Nat.zero_add];refine pR hO (h9.length+1) (az rfl) (show(bd d.done[y].2).length=64 by simp_all) (by have:=R6 Mm (d:={d.step with cells:=kb d.cells (d.done.take y)}) hh;omega) (mn _) ?_;intro H hO;have ei:=auY (d:={d.step with cells:=kb d.cells (d.done.take y)}) Mm hh ao.2;rw[oR,ao.2]at ei
  replace hO:aj H (h9++ia bl c0 dQ {d.step with cells:=kb d.cells (d.done.take (y+1))}):=by
   have h3:aj H (h9++([(bl,⟨jL c0 dQ {d.step with cells:=kb d.cells (d.done.take y)},true⟩),(c0,⟨(j2 (kb d.cells (d.done.take y))).take ((d.done[y].1:Int).toNat*129+0)++(bd d.done[y].2++(j2 (kb d.cells (d.done.take y))).drop ((d.done[y].1:Int).toNat*129+0+64)),true⟩)]++bQ dQ (pU d.done))):=hO.cD;rw[ei]at h3;have h6:kb d.cells (d.done.take (y+1))=(kb d.cells (d.done.take y)).set (d.done[y].1:Int).toNat {({d.step with cells:=kb d.cells (d.done.take y)}:bK).cell (d.done[y].1:Int)with vI:=d.done[y].2}:=by grind[take_succ_eq_append_getElem,au4,uD,au7,Int.toNat_natCast]
   show aj H (h9++([(bl,⟨[aC c0 0 (kb d.cells (d.done.take (y+1))).length 259,dQ,int d.step.iz,int d.step.gK,.bool d.step.gm],true⟩),(c0,⟨j2 (kb d.cells (d.done.take (y+1))),true⟩)]++bQ dQ (pU d.done)));rw[C9,h6];have aG:aj H (h9++([(bl,⟨[aC c0 0 (kb d.cells (d.done.take y)).length 259,dQ,int d.step.iz,int d.step.gK,.bool d.step.gm],true⟩),(c0,⟨j2 ((kb d.cells (d.done.take y)).set (d.done[y].1:Int).toNat {({d.step with cells:=kb d.cells (d.done.take y)}:bK).cell (d.done[y].1:Int)with vI:=d.done[y].2}),true⟩)]++bQ dQ (pU d.done))):=h3;rw[C9]at aG;exact aG
  repeat refine bH ?_
  exact⟨_,by omega,y+1,by omega,rfl,rfl,dy hO⟩
 ·have mq:y=d.done.length:=by omega
  subst mq
  repeat refine bH ?_
  refine fR hO (ae.length+0) (az rfl) rfl (show 1<5 by omega) rfl ?_;intro H hO;rw[take_length]at hO;refine ah _ bu ?_ (.inl ⟨rfl,rfl,rfl⟩);have h3:aj H (ae++([(bl,⟨jL c0 bu {d.step with cells:=kb d.cells d.done,done:=[]},true⟩),(c0,⟨j2 (kb d.cells d.done),true⟩)]++bQ dQ (pU d.done))):=hO.cD;exact h3.sub (List.Sublist.append (List.Sublist.refl _) (List.Sublist.append (List.Sublist.refl _) (nil_sublist _)))
end J
namespace J
open Go Go.Ab
variable[cu:b0]
variable{H:au}{ae:List (Nat×ax)}{aa:VH}{v:Value}{bh:List Int}{e:Int}
variable{bl c0:Nat}{dQ:Value}{d:bK}
theorem ava{o n c i q:Nat}{aq:List Value}{aa:VH}(hO:aj H ae)(an:ae[i]?=some (q,⟨aq,true⟩))(hv:RdB ae v bh)(aU:bh.length<=n)(aD:o+n<=aq.length)
  (ah:∀ab,aj ab (ae.set i (q,⟨aq.take o++(bd bh++aq.drop (o+bh.length)),true⟩))->aa (int bh.length) ab):af (rB 1 (aC q o n c) v H) aa:=by
 obtain⟨ab,aM,al⟩:=HF hO (o:=o) (vs:=bd bh) an (by grind) (by simp[eL]);unfold rB;simp only[hv.nC];have hm:Nat.min bh.length n=bh.length:=Nat.min_eq_left aU;rw[hm];by_cases aJ:bh.length=0;have:bh=[]:=length_eq_zero_iff.1 aJ;subst this;refine bW (show some (Value.int .i64 0,H)=_ from rfl) ?_;have ah:=ah H;rw[show aq.take o++(bd []++aq.drop (o+([]:List Int).length))=aq by simp[bd],QC an]at ah;exact ah hO;have ak:Nat.beq bh.length 0=false:=by grind[eq_of_beq_eq_true]
 rw[ak];simp only[Bool.false_eq_true,if_false];rw[hv.pL hO];simp only;rw[aM];refine bW (show some (Value.int .i64 ((bh.length:Nat):Int),ab)=_ from rfl) ?_;rw[length_map]at al;exact ah _ al
theorem avb{h9:List (Nat×ax)}{d eM:bK}{aq:List Value}(hO:aj H ((h9++ia bl c0 dQ d).set (h9.length+1) (c0,⟨aq,true⟩)))(aB:aq=j2 eM.cells)(aD:eM.cells.length=d.cells.length)(h1:eM.done=d.done)(h2:eM.iz=d.iz)(h3:eM.gK=d.gK)(aG:eM.gm=d.gm):aj H (h9++ia bl c0 dQ eM):=by
 have a6:aj H (h9++([(bl,⟨jL c0 dQ d,true⟩),(c0,⟨aq,true⟩)]++bQ dQ (pU d.done))):=hO.cD;have e:jL c0 dQ d=jL c0 dQ eM:=by simp_all[jL]
 rw[aB,e,<- h1]at a6;exact a6
end J
namespace J
open Go Go.Ab
variable[cu:b0]
variable{w x:Value}
variable{c0:Nat}
theorem avc:rD P 169=⟨u6 129 136 (k7 iW)⟩:=by rfl
theorem aeE{α:Type}(f:α->List Value)(z:α):∀n:Nat,gv n (f z)=(List.replicate n z).flatMap f
 | 0=>rfl
 | n+1=>by show iC (f z) (gv n (f z))=_;rw[jm,aeE f z n,replicate_succ,flatMap_cons]
theorem avd(n:Nat)(c0:Nat)(w:Int):(dq P 172).f [(0,aC c0 0 n 259),(2,int w),(3,.int .i64 (-1))]=some (agg [aC c0 0 n 259,bu,int w,int (-1),.bool false]):=by rfl
def uE:Cell:=⟨jG,jG,0⟩
def bK.cY(n:Nat)(w:Int):bK:=⟨List.replicate n uE,[],w,-1,false⟩
theorem ave:iW.b4:=⟨rfl,rfl,by decide⟩
theorem FQ:uE.b4:=⟨rfl,rfl,by decide⟩
theorem bK.aeF{n:Nat}{w:Int}(aU:n<=4096)(aM:w<=100000):(bK.cY n w).b4:=by refine⟨fun c aB=>?_,by show(List.replicate n _).length<=_;simp_all,fun x ao=>(by cases ao),aM,by show-1<=(-1:Int)/\(-1:Int)<=_;omega⟩;rw[(mem_replicate.1 aB).2];exact FQ
end J
namespace J
open Go Go.Ab
variable[cu:b0]
variable{H:au}{ae:List (Nat×ax)}{aa:VH}{x:Value}{p:Nat}{e:Int}
structure Op where
 e0:Int
 part:Int
 bc:Int
 ct:Int
structure br where
 d:bK
 iA:List (Nat×Nat)
 ct:Int
 bD:List Op
def kP(o:Op):List Value:=[int o.e0,int o.part,int o.bc,int o.ct]
def q5(l:List Op):List Value:=l.flatMap kP
def vJ(l:List (Nat×Nat)):List Value:=l.flatMap fun x=>[int x.1,int x.2]
structure lK where
 cO:Nat
 bl:Nat
 c0:Nat
 bw:Nat
 dQ:Value
 iq:Value
def nj(L:lK)(m:br):List Value:=[ai L.bl 0,aC L.bw 0 m.iA.length 4,int m.ct,L.iq]
abbrev yk(L:lK)(m:br):List (Nat×ax):=[(L.cO,⟨nj L m,true⟩),(L.bw,⟨vJ m.iA,true⟩)]
abbrev dJ(L:lK)(m:br):List (Nat×ax):=yk L m++(bQ L.iq (q5 m.bD)++ia L.bl L.c0 L.dQ m.d)
structure lq (L:lK) (m:br):Prop where
 d:yj L.dQ m.d
 o:iV 4 L.iq m.bD.length (q5 m.bD)
structure lK.Eq (L cL:lK):Prop where
 m:cL.cO=L.cO
 d:cL.bl=L.bl
 c:cL.c0=L.c0
 s:cL.bw=L.bw
structure br.b4 (m:br):Prop where
 d:m.d.b4
 s:∀x∈m.iA,x.1+x.2<=m.d.cells.length
 n:m.iA.length<=16
def br.gB(m:br)(N:Nat):Prop:=m.d.done.length<=N/\m.bD.length<=N
variable{L:lK}{m:br}{part bc:Int}
theorem dJ.FR(h:aj H (ae++dJ L m)):aj H (((ae++yk L m)++bQ L.iq (q5 m.bD))++ia L.bl L.c0 L.dQ m.d):=by rw[append_assoc,append_assoc];exact h
theorem dJ.Sd(h:aj H (((ae++yk L m)++bQ L.iq (q5 m.bD))++ia L.bl L.c0 L.dQ m.d)):aj H (ae++dJ L m):=by rw[append_assoc,append_assoc]at h;exact h
def br.hC(m:br)(part:Int):Prop:=0<=part/\part<m.iA.length
instance:Decidable (m.hC part):=by unfold br.hC;infer_instance
def br.r5(m:br)(part:Int):Nat×Nat:=m.iA.getD part.toNat (0,0)
def br.size(m:br)(part:Int):Nat:=if m.hC part then(m.r5 part).2 else 0
theorem br.aeG(h:m.hC part):m.r5 part∈m.iA:=by
 unfold br.r5;have:part.toNat<m.iA.length:=by have:=h.1;have:=h.2;omega
 simp_all
theorem Se(h:m.hC part):(vJ m.iA)[part.toNat*2+0]?=some (int (m.r5 part).1)/\(vJ m.iA)[part.toNat*2+1]?=some (int (m.r5 part).2):=by
 have an:part.toNat<m.iA.length:=by have:=h.1;have:=h.2;omega
 have e:m.r5 part=m.iA[part.toNat]:=by simp_all[br.r5]
 unfold vJ;rw[R2 (n:=2) (fun _ _=>rfl) an (by omega),R2 (n:=2) (fun _ _=>rfl) an (by omega),e]
 simp_all
theorem avf(hO:aj H (ae++dJ L m))(ah:aa (ai L.bl 0) H):ay P 22 [ai L.cO 0] H aa:=by
 apply aqV;unfold aaE
 repeat refine bH ?_
 exact aY hO (ae.length+0) (az rfl) rfl ah
theorem aeH(hO:aj H (ae++dJ L m))(ah:aa (.bool (decide (m.hC part))) H):ay P 149 [ai L.cO 0,int part] H aa:=by
 apply asE;unfold acs
 repeat refine bH ?_
 refine bF (fun h=>?_) (fun h=>?_)
 repeat refine bH ?_
 refine aY hO (ae.length+0) (az rfl) rfl ?_
 repeat (first|refine bH ?_|refine tq ?_)
 rw[decide_eq_decide.2 (show part<(m.iA.length:Int)↔m.hC part from⟨fun h2=>⟨h,h2⟩,fun h2=>h2.2⟩)];exact ah
 repeat refine bH ?_
 rw[decide_eq_false (show¬m.hC part from fun h2=>h h2.1)]at ah;exact ah
theorem aeI(hO:aj H (ae++dJ L m))(ah:aa (int (m.size part)) H):ay P 72 [ai L.cO 0,int part] H aa:=by
 apply arF;unfold abp;refine aeH hO ?_;unfold br.size at ah;refine ag ix ?_;by_cases h:m.hC part;rw[if_pos h]at ah;rw[decide_eq_true h];refine dP rfl ?_
 repeat refine bH ?_
 refine aY hO (ae.length+0) (az rfl) rfl (ag (jD h.1 h.2) ?_)
 repeat refine bH ?_
 rw[Nat.zero_add];exact aY hO (ae.length+1) (az rfl) (Se h).2 ah;rw[if_neg h]at ah;rw[decide_eq_false h];exact eT rfl ah
def br.gj(m:br)(part bc:Int):Int×Int:=if¬m.hC part then(0,71)else if bc<0\/(m.r5 part).2<=bc then(0,61)else((m.r5 part).1+bc,0)
theorem Sf(ok:m.b4)(hO:aj H (ae++dJ L m))(ah:aa (.tuple [int (m.gj part bc).1,int (m.gj part bc).2].toArray) H):ay P 117 [ai L.cO 0,int part,int bc] H aa:=by
 apply ar4;unfold abQ;refine aeH hO ?_;unfold br.gj at ah;refine ag ix ?_;by_cases h:m.hC part;rw[if_neg (fun aT=>aT h)]at ah;rw[decide_eq_true h];refine dP rfl (e3 (fun aA ab=>aA=[ai L.cO 0,int part,int bc,.bool (decide (bc<0\/(m.r5 part).2<=bc))]/\ab=H) ?_ ?_)
 repeat refine bH ?_
 refine bF (fun h1=>?_) (fun h1=>?_)
 repeat refine bH ?_
 exact⟨by simp_all,rfl⟩
 repeat refine bH ?_
 refine aY hO (ae.length+0) (az rfl) rfl (ag (jD h.1 h.2) ?_)
 repeat refine bH ?_
 rw[Nat.zero_add];refine aY hO (ae.length+1) (az rfl) (Se h).2 ?_
 repeat refine bH ?_
 exact⟨by grind,rfl⟩;rintro aA ab ⟨rfl,rfl⟩
 try simp only[cj,ck]
 refine bF (fun h1=>?_) (fun h1=>?_);rw[if_pos h1]at ah;exact ah;rw[if_neg h1]at ah
 repeat refine bH ?_
 refine aY hO (ae.length+0) (az rfl) rfl (ag (jD h.1 h.2) ?_)
 repeat refine bH ?_
 rw[Nat.zero_add];refine aY hO (ae.length+1) (az rfl) (Se h).1 ?_;have:=ok.s _ (br.aeG h);have:=ok.d.n
 repeat refine bH ?_
 exact ah;rw[if_pos h]at ah;rw[decide_eq_false h];exact eT rfl ah
def br.fU(m:br)(part bc:Int):List Int×Int:=if(m.gj part bc).2≠0 then(tz,(m.gj part bc).2)else m.d.fU (m.gj part bc).1
theorem bK.zw{d:bK}(ok:d.b4){a:Int}:(d.fU a).1.length=64:=by unfold bK.fU;by_cases h:d.hC a;rw[if_pos h];exact(bK.sK ok.c h).s;rw[if_neg h];rfl
theorem br.zw(ok:m.b4):(m.fU part bc).1.length=64:=by unfold br.fU;split;rfl;exact bK.zw ok.d
theorem aeJ(ok:m.b4)(hO:aj H (ae++dJ L m))(ah:∀ab,aj ab (ae++dJ L m)->aa (.tuple [pj (m.fU part bc).1,int (m.fU part bc).2].toArray) ab):ay P 73 [ai L.cO 0,int part,int bc] H aa:=by
 apply arG;unfold abq;rw[C8];refine dH hO ?_;clear hO;intro gQ H hO
 replace hO:=hO.oi
 have Bb:(ae++[(gQ,(⟨bd tz,true⟩:ax))])[ae.length+0]?=some (gQ,⟨bd tz,true⟩):=az rfl;refine Sf ok hO (ag kT (ag kU (ag ij ?_)));unfold br.fU at ah;refine bF (fun h=>?_) (fun h=>?_);rw[if_pos h]at ah;refine ag R3 (fT hO (ae.length+0) (aL Bb) (by rfl) (by rfl) (mn _) ?_);clear hO;intro H hO;rw[set_append_left _ _ (by simp),Go.Ab.cD]at hO;exact gh hO (ae.length+0) (aL (az rfl)) (by rfl) (by omega) (ah _ (aj.ca hO));rw[if_neg h]at ah
 repeat refine bH ?_
 refine aY hO ((ae++[(gQ,(⟨bd tz,true⟩:ax))]).length+0) (az rfl) rfl (auL ok.d.c (dJ.FR hO) ?_);clear hO;intro H hO
 replace hO:=dJ.Sd hO
 refine ag kT (ag kU ?_);have aD:=bK.zw ok.d (a:=(m.gj part bc).1);refine fT hO (ae.length+0) (aL Bb) (by rfl) (by simp_all) (mn _) ?_;clear hO;intro H hO;rw[set_append_left _ _ (by simp),Go.Ab.cD]at hO;exact gh hO (ae.length+0) (aL (az rfl)) (by simp_all) (by omega) (ah _ (aj.ca hO))
def br.oS(m:br)(o:Op)(e:Int):br:=if e=0 then {m with bD:=m.bD++[{o with ct:=m.ct}]}else m
theorem avg(o:Op)(H:au):(eV P 80 1).f [(0,agg (kP o))] H=some (aC H.next 0 1 9,H.push (kP o)):=by rfl
theorem aeK(a b c:Int):(dq P 86).f [(0,int a),(1,int b),(2,int c)]=some (agg (kP ⟨a,b,c,0⟩)):=by rfl
theorem avh(l:List Op)(o:Op):q5 l++kP o=q5 (l++[o]):=by simp[q5]
theorem aeL{o:Op}(al:m.bD.length<=1000000000)(hO:aj H (ae++dJ L m))(hv:lq L m)
  (ah:∀ab cL,L.Eq cL->aj ab (ae++dJ cL (m.oS o e))->lq cL (m.oS o e)->aa (int e) ab):ay P 118 [ai L.cO 0,agg (kP o),int e] H aa:=by
 apply ar5;unfold abR;refine dH hO ?_;clear hO;intro c1 H hO
 replace hO:=hO.oi
 have i4:(ae++[(c1,(⟨kP o,true⟩:ax))])[ae.length+0]?=some (c1,⟨kP o,true⟩):=az rfl
 replace hO:aj H ((ae++[(c1,⟨kP o,true⟩)])++dJ L m):=hO
 refine ag e2 ?_;unfold br.oS at ah;refine bF (fun h=>?_) (fun h=>?_);rw[if_pos h]at ah
 repeat refine bH ?_
 refine aY hO ((ae++[(c1,(⟨kP o,true⟩:ax))]).length+0) (az rfl) rfl ?_
 repeat refine bH ?_
 refine fR hO (ae.length+0) (aL i4) rfl (show 3<4 by omega) (show _=kP {o with ct:=m.ct}from rfl) ?_;clear hO;intro H hO;rw[set_append_left _ _ (by simp),Go.Ab.cD]at hO
 replace hO:aj H ((ae++[(c1,⟨kP {o with ct:=m.ct},true⟩)])++dJ L m):=hO
 clear i4;have i4:(ae++[(c1,(⟨kP {o with ct:=m.ct},true⟩:ax))])[ae.length+0]?=some (c1,⟨kP {o with ct:=m.ct},true⟩):=az rfl;have dy:∀ {H:au} {b9:List (Nat×ax)},aj H ((ae++[(c1,⟨kP {o with ct:=m.ct},true⟩)])++b9)->aj H (ae++b9):=fun h=>aj.ca h
 generalize ae++[(c1,(⟨kP {o with ct:=m.ct},true⟩:ax))]=h9 at hO i4 dy
 repeat refine bH ?_
 refine aY hO (h9.length+0) (az rfl) rfl (gh hO (ae.length+0) (aL i4) rfl (by omega) ?_);have ju:aj H (((h9++yk L m)++ia L.bl L.c0 L.dQ m.d)++bQ L.iq (q5 m.bD)):=(dJ.FR hO).oi;refine ik ju (avg _ _) ?_;clear hO ju;intro q H hO;refine FO hO hv.o rfl (by omega) rfl (by omega) (by omega) ?_;clear hO;intro tA H hO uF
 repeat refine bH ?_
 obtain⟨cU,fo,dg,a7⟩:∃cU fo dg,tA=.slice cU fo dg:=by rcases uF with⟨_,h,_⟩|⟨p,rfl|rfl,_⟩;omega;exact⟨_,_,_,rfl⟩;simp_all
 refine fR hO (h9.length+0) (aL (aL (az rfl))) (by rw[a7];rfl) (show 3<4 by omega) rfl ?_;clear hO;intro H hO;rw[set_append_left _ _ (by simp),set_append_left _ _ (by simp),Go.Ab.cD]at hO;rw[avh]at hO uF;have h3:aj H (((h9++yk ⟨L.cO,L.bl,L.c0,L.bw,L.dQ,tA⟩ m)++ia L.bl L.c0 L.dQ m.d)++bQ tA (q5 (m.bD++[{o with ct:=m.ct}]))):=hO;refine ah H ⟨L.cO,L.bl,L.c0,L.bw,L.dQ,tA⟩ ⟨rfl,rfl,rfl,rfl⟩ (dy (dJ.Sd (m:={m with bD:=m.bD++[{o with ct:=m.ct}]}) h3.oi)) ⟨hv.d,?_⟩;show iV 4 tA (m.bD++[_]).length _;rw[length_append];exact uF;rw[if_neg h]at ah;exact ah _ L ⟨rfl,rfl,rfl,rfl⟩ (aj.ca hO) hv
end J
namespace J
open Go Go.Ab
variable[cu:b0]
variable{H:au}{ae:List (Nat×ax)}{aa:VH}{x:Value}{e:Int}
variable{L:lK}{m:br}{part bc:Int}{s:List Int}
def br.eF(m:br)(part bc:Int):br×Int:=if(m.gj part bc).2≠0 then(m,(m.gj part bc).2)else(({m with d:=(m.d.eF (m.gj part bc).1).1}:br).oS ⟨1,part,bc,0⟩ (m.d.eF (m.gj part bc).1).2,(m.d.eF (m.gj part bc).1).2)
def br.fE(m:br)(part bc:Int)(s:List Int):br×Int:=if(m.gj part bc).2≠0 then(m,(m.gj part bc).2)else(({m with d:=(m.d.fE (m.gj part bc).1 s).1}:br).oS ⟨2,part,bc,0⟩ (m.d.fE (m.gj part bc).1 s).2,(m.d.fE (m.gj part bc).1 s).2)
def br.jH(m:br):br×Int:=({m with d:=m.d.jH.1},m.d.jH.2)
theorem bK.avi{d:bK}{a:Int}:(d.eF a).1.cells.length=d.cells.length:=by unfold bK.eF;split;rfl;split;rfl;split;rfl;split;rfl;show((d.step.cells.set _ _).set _ _).length=_;rw[length_set,length_set];rfl
theorem bK.avj{d:bK}{a:Int}:(d.fE a s).1.cells.length=d.cells.length:=by unfold bK.fE;split;rfl;split;rfl;split;rfl;split;rfl;show(d.step.cells.set _ _).length=_;rw[length_set];rfl
theorem bK.avk{d:bK}:d.jH.1.cells.length=d.cells.length:=by unfold bK.jH;split;rfl;split;rfl;exact C9 _ _
theorem bK.avl{d:bK}{a:Int}:(d.eF a).1.done.length<=d.done.length+1:=by
 unfold bK.eF;split
 ·simp_all
 split
 ·simp_all
 split
 ·simp_all
 split
 ·exact le_succ _
 show(d.done++[_]).length<=_;simp
theorem bK.avm{d:bK}{a:Int}:(d.fE a s).1.done.length<=d.done.length+1:=by
 unfold bK.fE;split
 ·simp_all
 split
 ·simp_all
 split
 ·simp_all
 split
 ·exact le_succ _
 show(d.done++[_]).length<=_;simp
theorem bK.avn{d:bK}:d.jH.1.done.length<=d.done.length:=by
 unfold bK.jH;split
 ·simp_all
 split
 ·exact Nat.le_refl _
 simp_all
theorem br.Da{o:Op}:(m.oS o e).d=m.d:=by grind[br.oS]
theorem br.Ic{o:Op}:(m.oS o e).iA=m.iA:=by grind[br.oS]
theorem br.aeM{o:Op}:(m.oS o e).bD.length<=m.bD.length+1:=by unfold br.oS;grind
theorem br.avo:(m.fE part bc s).1.iA=m.iA:=by grind[br.fE,br.Ic]
theorem br.aeN{o:Op}(ok:m.b4):(m.oS o e).b4:=⟨by rw[br.Da];exact ok.d,by rw[br.Da,br.Ic];exact ok.s,by rw[br.Ic];exact ok.n⟩
theorem br.R8(ok:m.b4):(m.eF part bc).1.b4:=by unfold br.eF;split;exact ok;exact br.aeN ⟨bK.R8 ok.d,by rw[bK.avi];exact ok.s,ok.n⟩
theorem br.R9(ok:m.b4)(al:s.length=64):(m.fE part bc s).1.b4:=by unfold br.fE;split;exact ok;exact br.aeN ⟨bK.R9 ok.d al,by rw[bK.avj];exact ok.s,ok.n⟩
theorem br.Sc(ok:m.b4):m.jH.1.b4:=⟨bK.Sc ok.d,by show∀x∈m.iA,_<=m.d.jH.1.cells.length;rw[bK.avk];exact ok.s,ok.n⟩
theorem br.gB.mono{N c4:Nat}(h:m.gB N)(hm:N<=c4):m.gB c4:=⟨Nat.le_trans h.1 hm,Nat.le_trans h.2 hm⟩
theorem br.avp{N:Nat}(h:m.gB N):(m.eF part bc).1.gB (N+1):=by unfold br.eF;split;exact h.mono (le_succ _);refine⟨?_,Nat.le_trans br.aeM (succ_le_succ h.2)⟩;rw[br.Da];exact Nat.le_trans bK.avl (succ_le_succ h.1)
theorem br.aeO{N:Nat}(h:m.gB N):(m.fE part bc s).1.gB (N+1):=by unfold br.fE;split;exact h.mono (le_succ _);refine⟨?_,Nat.le_trans br.aeM (succ_le_succ h.2)⟩;rw[br.Da];exact Nat.le_trans bK.avm (succ_le_succ h.1)
theorem br.aeP{N:Nat}(h:m.gB N):m.jH.1.gB N:=⟨Nat.le_trans bK.avn h.1,h.2⟩
theorem lK.Eq.fC:L.Eq L:=⟨rfl,rfl,rfl,rfl⟩
theorem lK.Eq.trans{L cL aeQ:lK}(h:L.Eq cL)(aT:cL.Eq aeQ):L.Eq aeQ:=⟨aT.m.trans h.m,aT.d.trans h.d,aT.c.trans h.c,aT.s.trans h.s⟩
theorem dJ.Ie{eM:bK}{mo:Value}(h:aj H (((ae++yk L m)++bQ L.iq (q5 m.bD))++ia L.bl L.c0 mo eM)):aj H (ae++dJ {L with dQ:=mo} {m with d:=eM}):=dJ.Sd (L:={L with dQ:=mo}) (m:={m with d:=eM}) h
theorem avq(ok:m.b4)(al:m.gB 1000000)(hO:aj H (ae++dJ L m))(hv:lq L m)
  (ah:∀ab cL,L.Eq cL->aj ab (ae++dJ cL (m.eF part bc).1)->lq cL (m.eF part bc).1->aa (int (m.eF part bc).2) ab):ay P 238 [ai L.cO 0,int part,int bc] H aa:=by
 apply atG;unfold adF;refine Sf ok hO (ag kT (ag kU (ag ij ?_)));unfold br.eF at ah;refine bF (fun h=>?_) (fun h=>?_);rw[if_pos h]at ah;exact ah _ L lK.Eq.fC hO hv;rw[if_neg h]at ah;refine ag (aeK _ _ _) ?_
 repeat refine bH ?_
 refine aY hO (ae.length+0) (az rfl) rfl (au1 ok.d al.1 (dJ.FR hO) hv.d ?_);clear hO;intro H mo hO Cm;refine aeL (L:={L with dQ:=mo}) (m:={m with d:=(m.d.eF (m.gj part bc).1).1}) (by have:=al.2;grind) (dJ.Ie hO) ⟨Cm,hv.o⟩ ?_;clear hO;intro H cL he hO jT;exact ah _ cL ⟨he.m,he.d,he.c,he.s⟩ hO jT
theorem aeR(ok:m.b4)(aD:s.length=64)(al:m.gB 1000000)(hO:aj H (ae++dJ L m))(hv:lq L m)
  (ah:∀ab cL,L.Eq cL->aj ab (ae++dJ cL (m.fE part bc s).1)->lq cL (m.fE part bc s).1->aa (int (m.fE part bc s).2) ab):ay P 56 [ai L.cO 0,int part,int bc,pj s] H aa:=by
 apply arl;unfold aa6;refine dH hO ?_;clear hO;intro dX H hO
 replace hO:=hO.oi
 replace hO:aj H ((ae++[(dX,⟨bd s,true⟩)])++dJ L m):=hO
 have pk:(ae++[(dX,(⟨bd s,true⟩:ax))])[ae.length+0]?=some (dX,⟨bd s,true⟩):=az rfl;have dy:∀ {H:au} {b9:List (Nat×ax)},aj H ((ae++[(dX,⟨bd s,true⟩)])++b9)->aj H (ae++b9):=fun h=>aj.ca h
 generalize ae++[(dX,(⟨bd s,true⟩:ax))]=h9 at hO pk dy;refine Sf ok hO (ag kT (ag kU (ag ij ?_)));unfold br.fE at ah;refine bF (fun h=>?_) (fun h=>?_);rw[if_pos h]at ah;exact ah _ L lK.Eq.fC (dy hO) hv;rw[if_neg h]at ah;refine ag (aeK _ _ _) ?_
 repeat refine bH ?_
 refine aY hO (h9.length+0) (az rfl) rfl (gh hO (ae.length+0) (aL pk) (by simp_all) (by omega) (au2 ok.d aD al.1 (dJ.FR hO) hv.d ?_));clear hO;intro H mo hO Cm;refine aeL (L:={L with dQ:=mo}) (m:={m with d:=(m.d.fE (m.gj part bc).1 s).1}) (by have:=al.2;grind) (dJ.Ie hO) ⟨Cm,hv.o⟩ ?_;clear hO;intro H cL he hO jT;exact ah _ cL ⟨he.m,he.d,he.c,he.s⟩ (dy hO) jT
theorem aeS(ok:m.b4)(al:m.gB 1000000)(hO:aj H (ae++dJ L m))(hv:lq L m)
  (ah:∀ab cL,L.Eq cL->aj ab (ae++dJ cL m.jH.1)->lq cL m.jH.1->aa (int m.jH.2) ab):ay P 57 [ai L.cO 0] H aa:=by
 apply arn;unfold aa7
 repeat refine bH ?_
 refine aY hO (ae.length+0) (az rfl) rfl (au8 ok.d al.1 (dJ.FR hO) hv.d ?_);clear hO;intro H mo hO Cm;exact ah H {L with dQ:=mo} ⟨rfl,rfl,rfl,rfl⟩ (dJ.Ie hO) ⟨Cm,hv.o⟩
def br.Sg(part:Int):Nat->Nat->br->br×Int
 | 0,_,m=>(m,0)
 | n+1,y,m=>if(m.fU part y).1=jG then Sg part n (y+1) m else if(m.eF part y).2≠0 then m.eF part y else Sg part n (y+1) (m.eF part y).1
def br.kq(m:br)(part:Int):br×Int:=if¬m.hC part then(m,71)else br.Sg part (m.size part) 0 m
end J
namespace J
open Go Go.Ab
variable[cu:b0]
variable{H:au}{ae:List (Nat×ax)}{aa:VH}{v x:Value}
variable{L:lK}{m:br}
theorem aeT(hO:aj H (ae++dJ L m))(hv:lq L m)
  (ah:∀ab,aj ab ((ae++bQ L.iq (q5 m.bD))++dJ {L with iq:=bu} {m with bD:=[]})->lq {L with iq:=bu} {m with bD:=[]}->aa L.iq ab):ay P 30 [ai L.cO 0] H aa:=by
 apply aq2;unfold aaM
 repeat refine bH ?_
 refine aY hO (ae.length+0) (az rfl) rfl ?_
 repeat refine bH ?_
 refine fR hO (ae.length+0) (az rfl) rfl (show 3<4 by omega) rfl ?_;clear hO;intro H hO;have h3:aj H (ae++(yk {L with iq:=bu} {m with bD:=[]}++(bQ L.iq (q5 m.bD)++ia L.bl L.c0 L.dQ m.d))):=hO.cD;refine ah H ?_ ⟨hv.d,.inl ⟨rfl,rfl,rfl⟩⟩;refine h3.fj ?_;show(ae++(yk _ _++(bQ L.iq (q5 m.bD)++ia L.bl L.c0 L.dQ m.d))).Perm ((ae++bQ L.iq (q5 m.bD))++(yk _ _++([]++ia L.bl L.c0 L.dQ m.d)));rw[append_assoc,nil_append,<- append_assoc (yk _ _),<- append_assoc (bQ _ _)];exact List.Perm.append_left ae (List.Perm.append_right _ perm_append_comm)
def mI:Nat->List Nat->List (Nat×Nat)
 | _,[]=>[]
 | n,x::l=>(n,x)::mI (n+x) l
theorem Sh:∀(l:List Nat) (n:Nat),(mI n l).length=l.length
 | [],_=>rfl
 | x::l,n=>by show(mI (n+x) l).length+1=_;rw[Sh l];rfl
theorem aeU:∀(l:List Nat) (n y:Nat) (h:y<l.length),(mI n l).take (y+1)=(mI n l).take y++[(n+(l.take y).sum,l[y])]
 | x::l,n,0,_=>by simp[mI]
 | x::l,n,y+1,h=>by have:=aeU l (n+x) y (by simpa using h);show(n,x)::(mI (n+x) l).take (y+1)=(n,x)::(mI (n+x) l).take y++[(n+(x+(l.take y).sum),_)];rw[this,Nat.add_assoc];rfl
theorem avr(bl:Nat):(dq P 168).f [(0,ai bl 0)]=some (agg [ai bl 0,bu,int 0,bu]):=by rfl
theorem avs(a b:Int):(dq P 232).f [(0,int a),(1,int b)]=some (agg [int a,int b]):=by rfl
theorem avt(a b:Int)(H:au):(eV P 166 1).f [(0,agg [int a,int b])] H=some (aC H.next 0 1 5,H.push [int a,int b]):=by rfl
theorem Si:∀(l:List Nat) (y:Nat),(l.take y).sum<=l.sum
 | [],y=>by simp
 | x::l,0=>by simp
 | x::l,y+1=>by simp_all[Si]
theorem avu(l:List Nat)(y:Nat)(h:y<l.length):(l.take (y+1)).sum=(l.take y).sum+l[y]:=by grind[take_succ_eq_append_getElem]
theorem avv{bl c0 q c:Nat}{dQ:Value}{d:bK}{jj:List Nat}{Sj:Nat}{b:Bool}(ok:d.b4)(hO:aj H (ae++ia bl c0 dQ d))(dU:ae[Sj]?=some (q,⟨jj.map fun(n:Nat)=>int n,b⟩))(aJ:0<jj.length)(nQ:jj.length<=16)
  (h1:∀n∈jj,1<=n) (al:jj.sum<=d.cells.length) (hv:yj dQ d)
  (ah:∀ab cO bw,aj ab (ae++dJ ⟨cO,bl,c0,bw,dQ,bu⟩ ⟨d,mI 0 jj,0,[]⟩)->lq ⟨cO,bl,c0,bw,dQ,bu⟩ ⟨d,mI 0 jj,0,[]⟩->aa (.tuple [ai cO 0,int 0].toArray) ab):ay P 54 [ai bl 0,aC q 0 jj.length c] H aa:=by
 apply ari;unfold aa2;refine e3 (fun aA ab=>aA=[ai bl 0,aC q 0 jj.length c,.pointer none,int 0,.bool false]/\ab=H) ?_ ?_
 repeat (first|refine bH ?_|refine tq ?_|refine w4 ?_)
 rw[decide_eq_false (by omega)];exact⟨rfl,rfl⟩;rintro aA ab ⟨rfl,rfl⟩
 try simp only[cj,ck]
 refine dP rfl (ag (avr bl) (dH hO ?_));clear hO;intro cO H hO
 replace hO:aj H (((ae++ia bl c0 dQ d)++[(cO,⟨[ai bl 0,bu,int 0,bu],true⟩)])++bQ bu (vJ [])):=by show aj H (((ae++ia bl c0 dQ d)++[(cO,⟨[ai bl 0,bu,int 0,bu],true⟩)])++[]);rw[append_nil];exact hO
 repeat refine tq ?_
 have xb:=ok.n;have hlen:=Sh jj 0;refine arh (fun k aA ab=>∃(y:Nat) (vs:Value),y<=jj.length/\k=jj.length-y/\aA=[ai bl 0,.pointer none,int 0,ai cO 0,int ((jj.take y).sum:Nat),aC q 0 jj.length c,int jj.length,int y]/\aj ab (((ae++ia bl c0 dQ d)++[(cO,⟨[ai bl 0,vs,int 0,bu],true⟩)])++bQ vs (vJ ((mI 0 jj).take y)))/\iV 2 vs y (vJ ((mI 0 jj).take y))/\(0<y->∃bw,vs=aC bw 0 y 4)) _ _ ?_ jj.length _ _ ⟨0,bu,by omega,rfl,rfl,hO,.inl ⟨rfl,rfl,rfl⟩,fun h=>absurd h (by omega)⟩;clear hO;rintro k aA H ⟨y,vs,ba,rfl,rfl,hO,vo,vz⟩;unfold aa1
 try simp only[cj,ck]
 have ev:=Si jj y
 repeat refine bH ?_
 refine bF (fun h=>?_) (fun h=>?_);have gR:y<jj.length:=by omega
 have hm:=h1 _ (getElem_mem gR);have Mn:=Si jj (y+1);have nR:=avu jj y gR;refine ag (jD (by omega) (by omega)) ?_;refine aY hO Sj (aL (aL (aL dU))) (v:=int jj[y]) (by simp_all) ?_;refine e3 (fun aA ab=>aA=[ai bl 0,.pointer none,int 0,ai cO 0,int ((jj.take y).sum:Nat),int jj[y],aC q 0 jj.length c,int jj.length,int y,.bool false]/\ab=H) ?_ ?_;refine ag fr ?_;rw[decide_eq_false (show¬((jj[y]:Nat):Int)<1 by omega)];refine dP rfl (auK hO (aL (aL (az (k:=0) rfl))) ?_)
 repeat refine bH ?_
 rw[decide_eq_false (show¬((d.cells.length:Int)-((jj.take y).sum:Nat))<((jj[y]:Nat):Int) by omega)];exact⟨rfl,rfl⟩;rintro aA ab ⟨rfl,rfl⟩
 try simp only[cj,ck]
 refine dP rfl ?_
 repeat refine bH ?_
 refine aY hO ((ae++ia bl c0 dQ d).length+0) (aL (az rfl)) rfl (ag (avs _ _) (ik hO (avt _ _ _) ?_));clear hO;intro q2 H hO;refine aev hO vo rfl (by omega) rfl (by omega) (by omega) ?_;clear hO;intro bw H hO aeV;have hR:vJ ((mI 0 jj).take y)++[int ((jj.take y).sum:Nat),int jj[y]]=vJ ((mI 0 jj).take (y+1)):=by simp_all[aeU,vJ]
 rw[hR]at hO aeV
 repeat refine bH ?_
 refine fR hO ((ae++ia bl c0 dQ d).length+0) (aL (az rfl)) rfl (show 1<4 by omega) rfl ?_;clear hO;intro H hO;rw[set_append_left _ _ (by simp),Go.Ab.cD]at hO
 repeat refine bH ?_
 refine⟨_,by omega,y+1,_,by omega,rfl,?_,hO,aeV,fun _=>⟨bw,rfl⟩⟩
 simp_all
 have mq:y=jj.length:=by omega
 subst mq;rw[take_of_length_le (by rw[hlen];exact Nat.le_refl _)]at hO vo;obtain⟨bw,rfl⟩:=vz aJ
 repeat refine CR ?_
 refine ah H cO bw ?_ ⟨hv,.inl ⟨rfl,rfl,rfl⟩⟩;have h3:aj H (((ae++ia bl c0 dQ d)++[(cO,⟨[ai bl 0,aC bw 0 jj.length 4,int 0,bu],true⟩)])++[(bw,⟨vJ (mI 0 jj),true⟩)]):=hO;rw[append_assoc]at h3;have aG:=h3.oi;rw[append_assoc]at aG;have sA:nj ⟨cO,bl,c0,bw,dQ,bu⟩ ⟨d,mI 0 jj,0,[]⟩=[ai bl 0,aC bw 0 jj.length 4,int 0,bu]:=by simp_all[nj]
 show aj H (ae++([(cO,⟨nj ⟨cO,bl,c0,bw,dQ,bu⟩ ⟨d,mI 0 jj,0,[]⟩,true⟩),(bw,⟨vJ (mI 0 jj),true⟩)]++([]++ia bl c0 dQ d)));rw[sA,nil_append];exact aG
end J
namespace J
open Go Go.Ab
variable[cu:b0]
def nJ(x n:Nat):Nat:=x/2^n|||x*2^(32-n)%4294967296
def pV(x:Nat)(l:List Nat):Nat:=l.foldl (fun o n=>o ^^^ nJ x n) 0
def Bd(b:List Int)(t:Nat):Nat:=16777216*(b.getD (4*t) 0).toNat+65536*(b.getD (4*t+1) 0).toNat+256*(b.getD (4*t+2) 0).toNat+(b.getD (4*t+3) 0).toNat
def uG(b:List Int)(w:List Nat)(t:Nat):Nat:=if t<16 then Bd b t else
 (w.getD (t-16) 0+(pV (w.getD (t-15) 0) [7,18] ^^^ w.getD (t-15) 0/8)+w.getD (t-7) 0+(pV (w.getD (t-2) 0) [17,19] ^^^ w.getD (t-2) 0/1024))%4294967296
def iI(b:List Int):Nat->List Nat
 | 0=>[]
 | t+1=>iI b t++[uG b (iI b t) t]
def Be(e f g:Nat):Nat:=(e&&&f) ^^^ ((4294967295-e)&&&g)
def Db(a b c:Nat):Nat:=((a&&&b) ^^^ (a&&&c)) ^^^ (b&&&c)
structure W8 where
 a:Nat
 b:Nat
 c:Nat
 d:Nat
 e:Nat
 f:Nat
 g:Nat
 h:Nat
structure W8.b4 (x:W8):Prop where
 a:x.a<4294967296
 b:x.b<4294967296
 c:x.c<4294967296
 d:x.d<4294967296
 e:x.e<4294967296
 f:x.f<4294967296
 g:x.g<4294967296
 h:x.h<4294967296
def W8.l(x:W8):List Nat:=[x.a,x.b,x.c,x.d,x.e,x.f,x.g,x.h]
def zx(x:W8)(k w:Nat):Nat:=(x.h+pV x.e [6,11,25]+Be x.e x.f x.g+k+w)%4294967296
def Mo(x:W8):Nat:=(pV x.a [2,13,22]+Db x.a x.b x.c)%4294967296
def Ig(x:W8)(k w:Nat):W8:=⟨(zx x k w+Mo x)%4294967296,x.a,x.b,x.c,(x.d+zx x k w)%4294967296,x.e,x.f,x.g⟩
def kM:List Nat:=[0x428a2f98,0x71374491,0xb5c0fbcf,0xe9b5dba5,0x3956c25b,0x59f111f1,0x923f82a4,0xab1c5ed5,0xd807aa98,0x12835b01,0x243185be,0x550c7dc3,0x72be5d74,0x80deb1fe,0x9bdc06a7,0xc19bf174,
 0xe49b69c1,0xefbe4786,0x0fc19dc6,0x240ca1cc,0x2de92c6f,0x4a7484aa,0x5cb0a9dc,0x76f988da,0x983e5152,0xa831c66d,0xb00327c8,0xbf597fc7,0xc6e00bf3,0xd5a79147,0x06ca6351,0x14292967,
 0x27b70a85,0x2e1b2138,0x4d2c6dfc,0x53380d13,0x650a7354,0x766a0abb,0x81c2c92e,0x92722c85,0xa2bfe8a1,0xa81a664b,0xc24b8b70,0xc76c51a3,0xd192e819,0xd6990624,0xf40e3585,0x106aa070,
 0x19a4c116,0x1e376c08,0x2748774c,0x34b0bcb5,0x391c0cb3,0x4ed8aa4a,0x5b9cca4f,0x682e6ff3,0x748f82ee,0x78a5636f,0x84c87814,0x8cc70208,0x90befffa,0xa4506ceb,0xbef9a3f7,0xc67178f2]
def sL(w:List Nat)(x:W8):Nat->W8
 | 0=>x
 | t+1=>Ig (sL w x t) (kM.getD t 0) (w.getD t 0)
def FT(x y:W8):W8:=⟨(x.a+y.a)%4294967296,(x.b+y.b)%4294967296,(x.c+y.c)%4294967296,(x.d+y.d)%4294967296,(x.e+y.e)%4294967296,(x.f+y.f)%4294967296,(x.g+y.g)%4294967296,(x.h+y.h)%4294967296⟩
def Dc(s:W8)(b:List Int):W8:=FT s (sL (iI b 64) s 64)
def Dd:W8:=⟨0x6a09e667,0xbb67ae85,0x3c6ef372,0xa54ff53a,0x510e527f,0x9b05688c,0x1f83d9ab,0x5be0cd19⟩
def qm(xs:List Int):Nat->W8
 | 0=>Dd
 | n+1=>Dc (qm xs n) ((xs.drop (64*n)).take 64)
def nr(xs:List Int):W8:=qm xs (xs.length/64)
def De(xs:List Int):List Int:=xs.drop (64*(xs.length/64))
def uH(n:Nat):List Int:=(List.range 8).map fun i=>((n/2^(56-8*i)%256:Nat):Int)
def nS(n:Nat):Nat:=(119-n%64)%64
def xc(xs:List Int):List Int:=xs++[128]++List.replicate (nS xs.length) 0++uH (8*xs.length)
def Bf(w:Nat):List Int:=[((w/16777216%256:Nat):Int),((w/65536%256:Nat):Int),((w/256%256:Nat):Int),((w%256:Nat):Int)]
def oj(s:W8):List Int:=s.l.flatMap Bf
def gC(xs:List Int):List Int:=oj (nr (xc xs))
theorem vK{x n:Nat}(h:x<4294967296):nJ x n<4294967296:=or_lt_two_pow (n:=32) (Nat.lt_of_le_of_lt (div_le_self _ _) h) (mod_lt _ (by omega))
theorem aeW{x:Nat}(h:x<4294967296):∀(l:List Nat) (o:Nat),o<4294967296->l.foldl (fun o n=>o ^^^ nJ x n) o<4294967296
 | [],_,bM=>bM
 | n::l,o,bM=>aeW h l _ (xor_lt_two_pow (n:=32) bM (vK h))
theorem Ih{x:Nat}{l:List Nat}(h:x<4294967296):pV x l<4294967296:=aeW h l 0 (by omega)
theorem avw{e f g:Nat}(he:e<4294967296)(hf:f<4294967296)(hg:g<4294967296):Be e f g<4294967296:=
 xor_lt_two_pow (n:=32) (and_lt_two_pow (n:=32) _ hf) (and_lt_two_pow (n:=32) _ hg)
theorem avx{a b c:Nat}(ak:b<4294967296)(aB:c<4294967296):Db a b c<4294967296:=
 xor_lt_two_pow (n:=32) (xor_lt_two_pow (n:=32) (and_lt_two_pow (n:=32) _ ak) (and_lt_two_pow (n:=32) _ aB)) (and_lt_two_pow (n:=32) _ aB)
theorem avy{x:W8}{k w:Nat}(h:x.b4):(Ig x k w).b4:=⟨mod_lt _ (by omega),h.a,h.b,h.c,mod_lt _ (by omega),h.e,h.f,h.g⟩
theorem Ii{x:W8}{w:List Nat}(h:x.b4):∀t,(sL w x t).b4
 | 0=>h
 | t+1=>avy (Ii h t)
theorem avz{x y:W8}:(FT x y).b4:=⟨mod_lt _ (by omega),mod_lt _ (by omega),mod_lt _ (by omega),mod_lt _ (by omega),mod_lt _ (by omega),mod_lt _ (by omega),mod_lt _ (by omega),mod_lt _ (by omega)⟩
theorem avA:Dd.b4:=⟨by decide,by decide,by decide,by decide,by decide,by decide,by decide,by decide⟩
theorem Ij{xs:List Int}:∀n,(qm xs n).b4
 | 0=>avA
 | n+1=>avz
theorem Ik{b:List Int}:∀t,(iI b t).length=t
 | 0=>rfl
 | t+1=>by show(iI b t++[_]).length=t+1;rw[length_append,Ik t];rfl
theorem yl{b:List Int}(h:∀x∈b,0<=x/\x<=255)(i:Nat):(b.getD i 0).toNat<256:=by grind[getElem_mem]
theorem avB{b:List Int}(h:∀x∈b,0<=x/\x<=255)(t:Nat):Bd b t<4294967296:=by grind[yl,Bd]
theorem avC{b:List Int}{w:List Nat}(h:∀x∈b,0<=x/\x<=255)(t:Nat):uG b w t<4294967296:=by grind[uG,avB]
theorem Il{b:List Int}(h:∀x∈b,0<=x/\x<=255):∀t,∀x∈iI b t,x<4294967296
 | 0,x,ao=>by cases ao
 | t+1,x,ao=>by
  rcases mem_append.1 (show x∈iI b t++[uG b (iI b t) t]from ao)with ao|ao
  exact Il h t x ao
  simp_all[avC]
theorem Df{w:List Nat}(h:∀x∈w,x<4294967296)(i:Nat):w.getD i 0<4294967296:=by grind[getElem_mem]
theorem aeX{xs bh:List Int}:∀n,64*n<=xs.length->qm (xs++bh) n=qm xs n
 | 0,_=>rfl
 | n+1,h=>by show Dc (qm (xs++bh) n) (((xs++bh).drop (64*n)).take 64)=Dc (qm xs n) ((xs.drop (64*n)).take 64);rw[aeX n (by omega),drop_append_of_le_length (by omega),take_append_of_le_length (by rw[length_drop];omega)]
theorem Sk{xs:List Int}:(De xs).length=xs.length%64:=by grind[De]
theorem Mp{n:Nat}:(uH n).length=8:=by rfl
theorem avD{xs:List Int}:(xc xs).length%64=0:=by grind[xc,Mp,nS]
theorem avE{a b c d:Nat}(bn:a<256)(ak:b<256)(aB:c<256)(aO:d<256):((a*2^24%4294967296|||b*2^16%4294967296)|||c*2^8%4294967296)|||d=16777216*a+65536*b+256*c+d:=by
 have h1:∀ {x k:Nat},x<2^(32-k)->k<=32->x*2^k%4294967296=2^k*x:=by
  intro x k ao ah;rw[Nat.mul_comm];refine mod_eq_of_lt ?_;have:2^k*x<2^k*2^(32-k):=Nat.mul_lt_mul_of_pos_left ao (Nat.two_pow_pos k)
  rwa [<- Nat.pow_add,show k+(32-k)=32 from Nat.add_sub_cancel' ah]at this
 rw[h1 (k:=24) (Nat.lt_of_lt_of_le bn (by decide)) (by decide),h1 (k:=16) (Nat.lt_of_lt_of_le ak (by decide)) (by decide),h1 (k:=8) (Nat.lt_of_lt_of_le aB (by decide)) (by decide)];rw[<- two_pow_add_eq_or_of_lt (i:=24) (show 2^16*b<2^24 from Nat.lt_of_lt_of_le (Nat.mul_lt_mul_of_pos_left ak (by decide)) (by decide))];have h6:2^24*a+2^16*b=2^16*(2^8*a+b):=by omega
 rw[h6,<- two_pow_add_eq_or_of_lt (i:=16) (show 2^8*c<2^16 from Nat.lt_of_lt_of_le (Nat.mul_lt_mul_of_pos_left aB (by decide)) (by decide))];have hR:2^16*(2^8*a+b)+2^8*c=2^8*(2^8*(2^8*a+b)+c):=by omega
 rw[hR,<- two_pow_add_eq_or_of_lt (i:=8) (Nat.lt_of_lt_of_le aO (by decide))]
end J
namespace J
open Go Go.Ab
variable[cu:b0]
variable{H:au}{ae b9:List (Nat×ax)}{aa:VH}{v w x:Value}{b:List Int}{j p:Nat}{e:Int}
abbrev u32(n:Nat):Value:=bT .u32 n
theorem uI{p o fm an:Nat}(h:p<fm):nm (cm [ai p o]) fm an:=by
 show Ae [p] fm an=true
 simp_all[Ae,kH]
theorem avF{n:Int}(h:-9223372036854775808<=n)(aU:n<0):iN .u64 n=((18446744073709551616-n.natAbs:Nat):Int):=by obtain⟨m,rfl⟩:∃m:Nat,n=Int.negSucc m:=⟨n.natAbs-1,by omega⟩;show((18446744073709551616-1-m%18446744073709551616:Nat):Int)=_;omega
theorem avG{a n:Nat}(bn:a<4294967296)(aU:0<n)(E6:n<32)(ah:aa (u32 (nJ a n)) H):ay P 282 [u32 a,int (-(n:Int))] H aa:=by
 apply aul;unfold ael;refine bW (v:=bT .u64 (18446744073709551616-n)) (ab:=H) (by
  show some (Value.int .u64 (iN .u64 (-(n:Int))),H)=_
  grind[avF]) ?_
 refine ag (v:=bT .u64 (32-n)) (by
  rw[show(Value.int .u64 31)=bT .u64 31 from rfl,w2 rfl (show 18446744073709551616-n<gr .u64 from(show _<18446744073709551616 by omega)) (by decide)]
  congr 2
  have:(18446744073709551616-n)&&&31=(18446744073709551616-n)%32:=and_two_pow_sub_one_eq_mod _ 5;omega) ?_
 refine ag (Fk (k:=.u32) rfl (show 32-n<=32 by omega)) ?_;refine ag (v:=bT .u64 n) (by
  rw[show(Value.int .u64 32)=bT .u64 32 from rfl,QK rfl (by omega) (by decide)]
  grind) ?_
 refine ag (zi (k:=.u32) rfl (show n<=32 by omega)) (ag (CP (k:=.u32) rfl (show a*2^(32-n)%gr .u32<gr .u32 from mod_lt _ (by decide)) (show a/2^n<4294967296 from Nat.lt_of_le_of_lt (div_le_self _ _) bn)) ?_);rw[Nat.or_comm];exact ah
theorem Mq{a:Nat}{l:List Nat}{q c j:Nat}{wr:Bool}(bn:a<4294967296)(aD:∀n∈l,0<n/\n<32)(aU:l.length<=1000)(hO:aj H ae)(bm:ae[j]?=some (q,(⟨l.map fun(n:Nat)=>int n,wr⟩:ax)))(ah:aa (u32 (pV a l)) H):
  ay P 278 [u32 a,aC q 0 l.length c] H aa:=by
 apply aug;unfold aee;refine bW ze (auf (fun k aA ab=>ab=H/\∃y:Nat,y<=l.length/\k=l.length-y/\aA=[u32 a,.int .u32 0,u32 (pV a (l.take y)),aC q 0 l.length c,int l.length,int y]) _ _ ?_ l.length _ _ ⟨rfl,0,by omega,rfl,rfl⟩);rintro k aA ab ⟨rfl,y,ba,rfl,rfl⟩;unfold aed
 try simp only[cj,ck]
 refine ag fr (bF (fun h=>?_) (fun h=>?_));have gR:y<l.length:=by omega
 obtain⟨h1,h2⟩:=aD _ (getElem_mem gR);refine ag (jD (by omega) (by omega)) (aY hO j bm (v:=int (l[y]:Nat)) (by simp[gR]) ?_);refine ag (v:=int (-(l[y]:Int))) (by
  show some (Value.int .i64 (iN .i64 (0-(l[y]:Int))))=_
  grind[AI]) ?_
 refine avG bn h1 h2 (ag (oc (k:=.u32) rfl (Ih bn) (vK bn)) ?_)
 repeat refine bH ?_
 refine⟨_,by omega,(by rfl),y+1,by omega,rfl,?_⟩
 grind[pV,take_succ_eq_append_getElem]
 have mq:y=l.length:=by omega
 subst mq;rw[take_of_length_le (Nat.le_refl _)];exact k6 rfl ah
def jM(x:W8):List Value:=x.l.map fun(n:Nat)=>u32 n
theorem aeY:df P 389=List.replicate 8 (u32 0):=by rfl
theorem aeZ:df P 424=List.replicate 64 (u32 0):=by rfl
theorem avH(hO:aj H ae)(ah:∀ab p,aj ab (ae++[(p,⟨kM.map fun(n:Nat)=>u32 n,true⟩)])->aa (ai p 0) ab):ay P 277 [] H aa:=by apply aue;unfold aeb;exact ag (v:=agg (kM.map fun(n:Nat)=>u32 n)) (by rfl) (dH hO fun p ab=>ah ab p)
theorem avI(hO:aj H ae)(ah:∀ab,aj ab ae->aa (agg (jM Dd)) ab):ay P 259 [] H aa:=by
 apply atW;unfold adV;rw[aeY];refine dH hO ?_;intro p H hO;refine ag (v:=agg (jM Dd)) (by rfl) (fT hO (ae.length+0) (az rfl) rfl rfl rfl ?_);intro H hO
 replace hO:=hO.cD
 exact gh hO (ae.length+0) (az rfl) rfl (by omega) (ah _ hO.left)
theorem ae0(a b:Int)(H:au):(eV P 48 2).f [(0,.int .i64 a),(1,.int .i64 b)] H=some (aC H.next 0 2 3,H.push [int a,int b]):=by rfl
theorem ae1(a b c:Int)(H:au):(eV P 48 3).f [(0,.int .i64 a),(1,.int .i64 b),(2,.int .i64 c)] H=some (aC H.next 0 3 3,H.push [int a,int b,int c]):=by rfl
def lL(w:List Nat):List Value:=(w.map fun(n:Nat)=>u32 n)++List.replicate (64-w.length) (u32 0)
theorem FU{w:List Nat}(h:w.length<=64):(lL w).length=64:=by grind[lL]
theorem Im{w:List Nat}{i:Nat}(h:i<w.length):(lL w)[i]?=some (u32 (w.getD i 0)):=by simp_all[lL,List.getElem?_append_left]
theorem avJ{w:List Nat}{n:Nat}(h:w.length<64):(lL w).set w.length (u32 n)=lL (w++[n]):=by
 unfold lL;rw[set_append_right _ _ (by simp)];simp;obtain⟨m,hm⟩:∃m,64-w.length=m+1:=⟨63-w.length,by omega⟩
 grind
theorem ae2{w:List Nat}:(lL w).all fY=true:=by simp[lL,fY,uo]
theorem FV{aa:VH}(hO:aj H ae)(h:RdB ae v b)(ak:∀x∈b,0<=x/\x<=255){i:Int}{n:Nat}(aU:i=n)(an:n<b.length)(ah:aa (bT .u8 (b.getD n 0).toNat) H):ad (hz 1 v (int i)) fun t=>af (aw t H) aa:=by
 obtain⟨p,o,c,j,xd,rfl,h1,h2⟩:=h.at an;subst aU;refine ag (jD (by omega) (by omega)) ?_;rw[Int.toNat_natCast,Nat.mul_one];refine aY hO j h1 (v:=.int .u8 b[n]) h2 ?_;have e:b.getD n 0=b[n]:=by simp_all
 rw[e]at ah;have:=ak _ (getElem_mem an);have bt:(Value.int .u8 b[n])=bT .u8 (b[n]).toNat:=HL this.1;rw[bt];exact ah
theorem avK(hO:aj H ae)(hv:RdB ae v b)(ak:∀x∈b,0<=x/\x<=255)(aD:b.length=64)(ah:∀ab,aj ab ae->aa (agg (lL (iI b 64))) ab):ay P 276 [v] H aa:=by
 apply aud;unfold aea;rw[aeZ];refine dH hO ?_;intro bp H hO;refine dH hO ?_;intro eQ H hO;rw[append_assoc]at hO
 replace hO:aj H (ae++[(bp,⟨List.replicate 64 (u32 0),true⟩),(eQ,⟨lL [],true⟩)]):=hO
 refine auc (fun k aA ab=>∃(y:Nat) (b9:List (Nat×ax)),y<=64/\k=64-y/\aA=[v,ai bp 0,ai eQ 0,int y]/\aj ab (ae++([(bp,⟨List.replicate 64 (u32 0),true⟩),(eQ,⟨lL (iI b y),true⟩)]++b9))) _ _ ?_ 64 _ _ ⟨0,[],by omega,rfl,rfl,by rw[append_nil];exact hO⟩;rintro k aA H ⟨y,b9,ba,rfl,rfl,hO⟩;unfold ad9
 try simp only[cj,ck]
 have xe:=Ik (b:=b) y;have q6:∀ {w:List Nat} {R Mr:List (Nat×ax)},((ae++([(bp,(⟨List.replicate 64 (u32 0),true⟩:ax)),(eQ,⟨lL w,true⟩)]++R))++Mr)[ae.length+1]?=some (eQ,⟨lL w,true⟩):=aL (az rfl);have Dg:∀ {w:List Nat} {R:List (Nat×ax)},(ae++([(bp,(⟨List.replicate 64 (u32 0),true⟩:ax)),(eQ,⟨lL w,true⟩)]++R))[ae.length+1]?=some (eQ,⟨lL w,true⟩):=az rfl;refine ag fr (bF (fun h=>?_) (fun h=>?_));have dy:∀ {ab:au} {R:List (Nat×ax)} {n:Nat},n=uG b (iI b y) y->aj ab ((ae++([(bp,(⟨List.replicate 64 (u32 0),true⟩:ax)),(eQ,⟨lL (iI b y),true⟩)]++R)).set (ae.length+1) (eQ,⟨(lL (iI b y)).set (0+y*1) (u32 n),true⟩))->aj ab (ae++([(bp,⟨List.replicate 64 (u32 0),true⟩),(eQ,⟨lL (iI b (y+1)),true⟩)]++R)):=by
  intro ab R n aU aT;have h2:=aT.cD;subst aU;have e:(lL (iI b y)).set (0+y*1) (u32 (uG b (iI b y) y))=lL (iI b (y+1)):=by grind[avJ,iI]
  rw[e]at h2;exact h2
 refine ag fr (bF (fun nQ=>?_) (fun nQ=>?_));have sy:=yl ak (4*y);have cg:=yl ak (4*y+1);have cd:=yl ak (4*y+2);have g3:=yl ak (4*y+3);have ue:(ar P .mul 3 true).f (.int .i64 4) (int y)=some (int ((4*y:Nat):Int)):=by grind[vA]
 refine ag ue (FV hO hv.app ak rfl (by omega) (bW (uu (e6:=.u32) rfl) ?_));rw[show∀n,n<256->n%gr .u32=n from fun n aU=>mod_eq_of_lt (show n<4294967296 by omega)]<;>try exact sy
 refine ag (Fk (k:=.u32) (n:=24) rfl (by decide)) (ag ue (ag (jg (by omega) (by omega)) (FV hO hv.app ak (n:=4*y+1) (by omega) (by omega) (bW (uu (e6:=.u32) rfl) ?_))));rw[mod_eq_of_lt (show(b.getD (4*y+1) 0).toNat<gr .u32 from(show _<4294967296 by omega))];refine ag (Fk (k:=.u32) (n:=16) rfl (by decide)) (ag (CP (k:=.u32) rfl (mod_lt _ (by decide)) (mod_lt _ (by decide))) (ag ue (ag (jg (by omega) (by omega)) (FV hO hv.app ak (n:=4*y+2) (by omega) (by omega) (bW (uu (e6:=.u32) rfl) ?_)))));rw[mod_eq_of_lt (show(b.getD (4*y+2) 0).toNat<gr .u32 from(show _<4294967296 by omega))];refine ag (Fk (k:=.u32) (n:=8) rfl (by decide)) (ag (CP (k:=.u32) rfl (or_lt_two_pow (n:=32) (mod_lt _ (by decide)) (mod_lt _ (by decide))) (mod_lt _ (by decide))) (ag ue (ag (jg (by omega) (by omega)) (FV hO hv.app ak (n:=4*y+3) (by omega) (by omega) (bW (uu (e6:=.u32) rfl) ?_)))));rw[mod_eq_of_lt (show(b.getD (4*y+3) 0).toNat<gr .u32 from(show _<4294967296 by omega))];refine ag (CP (k:=.u32) rfl (or_lt_two_pow (n:=32) (or_lt_two_pow (n:=32) (mod_lt _ (by decide)) (mod_lt _ (by decide))) (mod_lt _ (by decide))) (show _<4294967296 by omega)) (ag (fX (by omega) (by omega)) ?_);rw[Int.toNat_natCast];refine fR hO (ae.length+1) Dg rfl (by grind[FU]) rfl ?_;intro H hO
 replace hO:=dy (R:=b9) (by unfold uG Bd;rw[if_pos (by omega)];exact avE sy cg cd g3) hO
 repeat refine bH ?_
 exact⟨_,by omega,y+1,b9,by omega,rfl,rfl,hO⟩;have dw:∀i,(iI b y).getD i 0<4294967296:=Df (Il ak y);have xW:eQ<H.next:=hO.lt (eQ,⟨lL (iI b y),true⟩) (mem_of_getElem? Dg);have kV:∀ {bB:au} {R:List (Nat×ax)} {o:Nat},aj bB ((ae++([(bp,(⟨List.replicate 64 (u32 0),true⟩:ax)),(eQ,⟨lL (iI b y),true⟩)]++b9))++R)->ey (en bB bB) (cm [ai eQ o]):=fun h1=>ho h1 (ae.length+1) q6 h1 (ae.length+1) q6 ae2
 refine ag (ob (by omega) (by omega)) (ag (fX (by omega) (by omega)) ?_);rw[show((y:Int)-15).toNat=y-15 by omega];refine aY hO (ae.length+1) Dg (v:=u32 ((iI b y).getD (y-15) 0)) (by grind[Im]) (ag (ob (by omega) (by omega)) (ag (fX (by omega) (by omega)) ?_));rw[show((y:Int)-2).toNat=y-2 by omega];refine aY hO (ae.length+1) Dg (v:=u32 ((iI b y).getD (y-2) 0)) (by grind[Im]) (ag (ob (by omega) (by omega)) (ag (fX (by omega) (by omega)) ?_));rw[show((y:Int)-16).toNat=y-16 by omega];refine aY hO (ae.length+1) Dg (v:=u32 ((iI b y).getD (y-16) 0)) (by grind[Im]) (ik hO (ae0 _ _ _) ?_);intro q H hO;refine Mq (l:=[7,18]) (dw _) (by simp_all) (by simp) hO (j:=_+0) (az rfl) (⟨kV hO,?_⟩);refine ag (zi (k:=.u32) (n:=3) rfl (by decide)) (ag (oc (k:=.u32) rfl (Ih (dw _)) (Nat.lt_of_le_of_lt (div_le_self _ _) (dw _))) (ag (sH (k:=.u32) rfl) (ag (ob (by omega) (by omega)) (ag (fX (by omega) (by omega)) ?_))));rw[show((y:Int)-7).toNat=y-7 by omega];refine aY hO (ae.length+1) q6 (v:=u32 ((iI b y).getD (y-7) 0)) (by grind[Im]) (⟨kV hO,uI xW,?_⟩);refine ag (sH (k:=.u32) rfl) (ik hO (ae0 _ _ _) ?_);intro q2 H hO;refine Mq (l:=[17,19]) (dw _) (by simp_all) (by simp) hO (j:=_+0) (az rfl) ?_;rw[append_assoc (ae++_)]at hO;refine⟨kV hO,kV hO,?_⟩;refine ag (zi (k:=.u32) (n:=10) rfl (by decide)) (ag (oc (k:=.u32) rfl (Ih (dw _)) (Nat.lt_of_le_of_lt (div_le_self _ _) (dw _))) (ag (sH (k:=.u32) rfl) (ag (fX (by omega) (by omega)) ?_)))
 rw[Int.toNat_natCast];rw[append_assoc ae,append_assoc [_,_]]at hO;refine fR hO (ae.length+1) Dg rfl (by grind[FU]) rfl ?_;intro H hO
 replace hO:=dy (R:=_) (by
  unfold uG;rw[if_neg (by omega)];generalize pV ((iI b y).getD (y-15) 0) [7,18] ^^^ (iI b y).getD (y-15) 0/2^3=X;generalize pV ((iI b y).getD (y-2) 0) [17,19] ^^^ (iI b y).getD (y-2) 0/2^10=hd;have Bg:gr .u32=4294967296:=rfl
  simp_all) hO
 repeat refine bH ?_
 exact⟨_,by omega,y+1,_,by omega,rfl,rfl,hO⟩;have mq:y=64:=by omega
 subst mq;refine k6 rfl ?_
 try simp only[cj,ck]
 refine gh hO (ae.length+1) Dg (FU (by omega)) (by omega) (fT hO (ae.length+0) (az rfl) (by simp) (FU (by omega)) (by simp[lL,eL]) ?_);intro H hO
 replace hO:=hO.cD
 exact gh hO (ae.length+0) (az rfl) (FU (by omega)) (by omega) (ah _ hO.left)
end J
namespace J
open Go Go.Ab
variable[cu:b0]
variable{H:au}{ae b9:List (Nat×ax)}{aa:VH}{v w x:Value}{b:List Int}{j:Nat}{e:Int}
theorem avL{o n c i q dL fN cr:Nat}{aq:List Value}{aa:VH}(hO:aj H ae)(an:ae[i]?=some (q,⟨aq,true⟩))(aU:fN<=n)(bJ:0<fN)(aD:o+n<=aq.length)(q7:dL+fN<=aq.length)(h1:aq.all eL=true)
  (ah:∀ab,aj ab (ae.set i (q,⟨aq.take o++((aq.drop dL).take fN++aq.drop (o+fN)),true⟩))->aa (int fN) ab):af (rB 1 (aC q o n c) (aC q dL fN cr) H) aa:=by
 have hlen:((aq.drop dL).take fN).length=fN:=by grind
 obtain⟨ab,aM,al⟩:=HF hO (o:=o) (vs:=(aq.drop dL).take fN) an (by omega) (by grind);unfold rB;simp only[show nC (aC q dL fN cr)=some fN from rfl];have hm:Nat.min fN n=fN:=Nat.min_eq_left aU;rw[hm];have ak:Nat.beq fN 0=false:=by grind[eq_of_beq_eq_true]
 rw[ak];simp only[Bool.false_eq_true,if_false];have hg:=hO.at i an (.inl rfl);have he:tX H 1 fN (aC q dL fN cr)=some ((aq.drop dL).take (fN*1)):=HH hg (by simp_all);rw[he,Nat.mul_one];simp only;rw[aM];refine bW (show some (Value.int .i64 ((fN:Nat):Int),ab)=_ from rfl) ?_;rw[hlen]at al;exact ah _ al
theorem avM(x:W8):(jM x).all fY=true:=rfl
theorem Ms(x:W8):(jM x).all eL=true:=rfl
theorem avN:(kM.map fun(n:Nat)=>u32 n).all fY=true:=by rfl
theorem avO{i:Nat}(h:i<64):(kM.map fun(n:Nat)=>u32 n)[i]?=some (u32 (kM.getD i 0)):=by
 have aD:kM.length=64:=rfl
 grind
theorem avP(i:Nat):kM.getD i 0<4294967296:=Df (by decide) i
theorem avQ(x:W8)(k w:Nat):
  ((((x.h+pV x.e [6,11,25])%4294967296+Be x.e x.f x.g)%4294967296+k)%4294967296+w)%4294967296=zx x k w:=by
 simp_all[zx]
theorem avR{bp c1 fK zy dX:Nat}{s:W8}{hE:List Nat}{bC:LX}{ch:LN}(al:s.b4)(aM:∀x∈hE,x<4294967296)(xe:hE.length=64){Bh ae3:Nat}(a6:ae[Bh]?=some (fK,⟨lL hE,true⟩))(nQ:ae[ae3]?=some (zy,⟨kM.map fun(n:Nat)=>u32 n,true⟩))
  (hO:aj H (ae++[(dX,⟨jM s,true⟩)])) (ah:∀ab b9,aj ab ((ae++[(dX,⟨jM (sL hE s 64),true⟩)])++b9)->bC 0 [ai bp 0,ai c1 0,ai dX 0] ab):
  eJ P true 97 RX 148 [ai bp 0,ai c1 0,ai fK 0,ai zy 0,ai dX 0,int 0] H bC ch:=by
 refine atX (fun k aA ab=>∃(y:Nat) (b9:List (Nat×ax)),y<=64/\k=64-y/\aA=[ai bp 0,ai c1 0,ai fK 0,ai zy 0,ai dX 0,int y]/\aj ab ((ae++[(dX,⟨jM (sL hE s y),true⟩)])++b9)) _ _ ?_ 64 _ _ ⟨0,[],by omega,rfl,rfl,by rw[append_nil];exact hO⟩;rintro k aA H ⟨y,b9,ba,rfl,rfl,hO⟩;unfold adW
 try simp only[cj,ck]
 refine ag fr (bF (fun h=>?_) (fun h=>?_))
 rotate_left
 ·have mq:y=64:=by omega
  subst mq;exact ah _ _ hO
 have gG:=Ii (w:=hE) al y;have avS:hE.getD y 0<4294967296:=Df aM y;have bj:sL hE s (y+1)=Ig (sL hE s y) (kM.getD y 0) (hE.getD y 0):=rfl;generalize sL hE s y=x at*;have pk:∀ {R:List (Nat×ax)},(((ae++[(dX,(⟨jM x,true⟩:ax))])++b9)++R)[ae.length+0]?=some (dX,⟨jM x,true⟩):=aL (aL (az rfl));have Mt:((ae++[(dX,(⟨jM x,true⟩:ax))])++b9)[ae.length+0]?=some (dX,⟨jM x,true⟩):=aL (az rfl);have od:∀ {R:List (Nat×ax)},(((ae++[(dX,(⟨jM x,true⟩:ax))])++b9)++R)[Bh]?=some (fK,⟨lL hE,true⟩):=aL (aL (aL a6));have i16:∀ {R:List (Nat×ax)},(((ae++[(dX,(⟨jM x,true⟩:ax))])++b9)++R)[ae3]?=some (zy,⟨kM.map fun(n:Nat)=>u32 n,true⟩):=aL (aL (aL nQ));have ae4:dX<H.next:=hO.lt _ (mem_of_getElem? Mt);have avT:fK<H.next:=hO.lt _ (mem_of_getElem? (aL (aL a6)));have avU:zy<H.next:=hO.lt _ (mem_of_getElem? (aL (aL nQ)));have Dh:∀ {bB:au} {R:List (Nat×ax)} {o:Nat},aj bB (((ae++[(dX,(⟨jM x,true⟩:ax))])++b9)++R)->ey (en bB bB) (cm [ai dX o]):=fun h1=>ho h1 _ pk h1 _ pk (avM x)
 have avV:∀ {bB:au} {R:List (Nat×ax)} {o:Nat},aj bB (((ae++[(dX,(⟨jM x,true⟩:ax))])++b9)++R)->ey (en bB bB) (cm [ai fK o]):=fun h1=>ho h1 _ od h1 _ od ae2
 have avW:∀ {bB:au} {R:List (Nat×ax)} {o:Nat},aj bB (((ae++[(dX,(⟨jM x,true⟩:ax))])++b9)++R)->ey (en bB bB) (cm [ai zy o]):=fun h1=>ho h1 _ i16 h1 _ i16 avN
 have Bg:gr .u32=4294967296:=rfl;refine ag (fX (by omega) (by omega)) (aY hO _ Mt (v:=u32 x.a) rfl (ag (fX (by omega) (by omega)) (aY hO _ Mt (v:=u32 x.e) rfl (ag (fX (by omega) (by omega)) (aY hO _ Mt (v:=u32 x.h) rfl (ik hO (ae1 _ _ _ _) ?_))))));intro q cJ hO;refine Mq (l:=[6,11,25]) gG.e (by simp_all) (by simp) hO (j:=_+0) (az rfl) (⟨Dh hO,?_⟩);refine ag (sH (k:=.u32) rfl) (ag (fX (by omega) (by omega)) (aY hO _ pk (v:=u32 x.f) rfl (⟨Dh hO,uI ae4,?_⟩)));refine ag (w2 (k:=.u32) rfl gG.e gG.f) (ag (an7 (k:=.u32) rfl gG.e) (ag (fX (by omega) (by omega)) (aY hO _ pk (v:=u32 x.g) rfl (⟨Dh hO,uI ae4,?_⟩))));have dC:gr .u32-1-x.e<gr .u32:=by omega
 refine ag (w2 (k:=.u32) rfl dC gG.g) (ag (oc (k:=.u32) rfl (and_lt_two_pow (n:=32) _ gG.f) (and_lt_two_pow (n:=32) _ gG.g)) (ag (sH (k:=.u32) rfl) (ag YB (ag (fX (by omega) (by omega)) ?_))));rw[Int.toNat_natCast];refine aY hO _ i16 (v:=u32 (kM.getD y 0)) (by grind[avO]) (⟨avW hO,uI avU,?_⟩);refine ag (sH (k:=.u32) rfl) (ag (fX (by omega) (by omega)) ?_);rw[Int.toNat_natCast];refine aY hO _ od (v:=u32 (hE.getD y 0)) (by grind[Im]) (⟨avV hO,uI avT,?_⟩);refine ag (sH (k:=.u32) rfl) ?_;have avX:=avQ x (kM.getD y 0) (hE.getD y 0);rw[Bg,show(x.e&&&x.f) ^^^ ((4294967296-1-x.e)&&&x.g)=Be x.e x.f x.g from rfl,avX];have Mu:dX<cJ.next:=hO.lt _ (mem_of_getElem? pk);refine ik hO (ae1 _ _ _ _) ?_;intro q2 jr hO;refine Mq (l:=[2,13,22]) gG.a (by simp_all) (by simp) hO (j:=_+0) (az rfl) ?_;rw[append_assoc (_++b9)]at hO;refine ag (fX (by omega) (by omega)) (aY hO _ pk (v:=u32 x.b) rfl (⟨Dh hO,uI Mu,?_⟩));refine ag (w2 (k:=.u32) rfl gG.a gG.b) (ag (fX (by omega) (by omega)) (aY hO _ pk (v:=u32 x.c) rfl (⟨Dh hO,uI Mu,?_⟩)));refine ag (w2 (k:=.u32) rfl gG.a gG.c) (ag (oc (k:=.u32) rfl (and_lt_two_pow (n:=32) _ gG.b) (and_lt_two_pow (n:=32) _ gG.c)) (ag (fX (by omega) (by omega)) (aY hO _ pk (v:=u32 x.b) rfl (⟨Dh hO,uI Mu,?_⟩))));refine ag (fX (by omega) (by omega)) (aY hO _ pk (v:=u32 x.c) rfl (⟨Dh hO,uI Mu,?_⟩))
 refine ag (w2 (k:=.u32) rfl gG.b gG.c) (ag (oc (k:=.u32) rfl (xor_lt_two_pow (n:=32) (and_lt_two_pow (n:=32) _ gG.b) (and_lt_two_pow (n:=32) _ gG.c)) (and_lt_two_pow (n:=32) _ gG.c)) (ag (sH (k:=.u32) rfl) ?_));rw[Bg,show((x.a&&&x.b) ^^^ (x.a&&&x.c)) ^^^ (x.b&&&x.c)=Db x.a x.b x.c from rfl,show(pV x.a [2,13,22]+Db x.a x.b x.c)%4294967296=Mo x from rfl];have hg:=hO.at _ pk (.inl rfl);refine ag (show mK 8 1 (ai dX 0) (some (int 1)) none none jr=some (aC dX 1 7 3) by unfold mK;simp only[hg];rfl) (ag (show mK 8 1 (ai dX 0) none (some (int 7)) none jr=some (aC dX 0 7 2) by unfold mK;simp only[hg];rfl) (avL hO pk (by omega) (by omega) (show 1+7<=8 by omega) (show 0+7<=8 by omega) (Ms x) ?_));intro vy hO;have Sl:∀ {c bV:List Value} {R:List (Nat×ax)},((((ae++[(dX,(⟨c,true⟩:ax))])++b9)++R).set (ae.length+0) (dX,⟨bV,true⟩))=(((ae++[(dX,(⟨bV,true⟩:ax))])++b9)++R):=by simp_all
 have Sm:∀ {c:List Value} {R:List (Nat×ax)},(((ae++[(dX,(⟨c,true⟩:ax))])++b9)++R)[ae.length+0]?=some (dX,⟨c,true⟩):=aL (aL (az rfl));rw[Sl]at hO;refine ag (fX (by omega) (by omega)) (aY hO _ Sm (v:=u32 x.d) rfl (ag (sH (k:=.u32) rfl) (ag (fX (by omega) (by omega)) (fR hO _ Sm rfl (show 4<8 by omega) (show _=[u32 x.a,u32 x.a,u32 x.b,u32 x.c,u32 ((x.d+zx x (kM.getD y 0) (hE.getD y 0))%4294967296),u32 x.e,u32 x.f,u32 x.g]from rfl) ?_))));intro aes hO;rw[Sl]at hO;refine ag (sH (k:=.u32) rfl) (ag (fX (by omega) (by omega)) (fR hO _ Sm rfl (show 0<8 by omega) (show _=jM (Ig x (kM.getD y 0) (hE.getD y 0))from rfl) ?_));intro zm hO;rw[Sl]at hO
 repeat refine bH ?_
 rw[append_assoc (ae++_),<- bj]at hO;exact⟨64-(y+1),by omega,y+1,_,by omega,rfl,rfl,hO⟩
end J
namespace J
open Go Go.Ab
variable[cu:b0]
variable{H:au}{ae b9:List (Nat×ax)}{aa:VH}{v w x:Value}{b:List Int}
theorem ae5{l:List Value}{i:Nat}{v:Value}(h:l[i]?=some v):i<l.length:=(List.getElem?_eq_some_iff.1 h).1
def sM(a b:List Nat)(y:Nat):List Nat:=(List.range a.length).map fun i=>if i<y then(a.getD i 0+b.getD i 0)%4294967296 else a.getD i 0
theorem ae6{a b:List Nat}{y:Nat}:(sM a b y).length=a.length:=by simp_all[sM]
theorem Mv{a b:List Nat}{y i:Nat}(h:i<a.length):(sM a b y)[i]?=some (if i<y then(a.getD i 0+b.getD i 0)%4294967296 else a.getD i 0):=by simp_all[sM]
theorem ae7{a b:List Nat}{y:Nat}(h:y<a.length):(sM a b y).set y ((a.getD y 0+b.getD y 0)%4294967296)=sM a b (y+1):=by
 apply ext_getElem?;intro i;rw[List.getElem?_set];by_cases an:i<a.length;rw[Mv an,Mv an];by_cases he:y=i
 simp_all[ae6]
 grind
 simp_all[ae6]
theorem ae8{s R:W8}:sM s.l R.l 8=(FT s R).l:=rfl
theorem avY{s R:W8}{bp c1 dX:Nat}{T:List (Nat×ax)}{bC:LX}{ch:LN}(pk:T[2]?=some (dX,⟨jM R,true⟩))
  (hO:aj H (ae++([(bp,⟨jM s,true⟩),(c1,⟨List.replicate 8 (u32 0),true⟩)]++T)))
  (ah:∀ab,aj ab (ae++([(bp,⟨jM (FT s R),true⟩),(c1,⟨List.replicate 8 (u32 0),true⟩)]++T))->bC 2 [ai bp 0,ai c1 0] ab):
  eJ P true 97 RY 20 [ai bp 0,ai c1 0,ai dX 0,int 0] H bC ch:=by
 refine atY (fun k aA ab=>∃(y:Nat),y<=8/\k=8-y/\aA=[ai bp 0,ai c1 0,ai dX 0,int y]/\aj ab (ae++([(bp,⟨(sM s.l R.l y).map fun(n:Nat)=>u32 n,true⟩),(c1,⟨List.replicate 8 (u32 0),true⟩)]++T))) _ _ ?_ 8 _ _ ⟨0,by omega,rfl,rfl,hO⟩;rintro k aA H ⟨y,ba,rfl,rfl,hO⟩;unfold adX
 try simp only[cj,ck]
 have LL:s.l.length=8:=rfl;have ae9:R.l.length=8:=rfl;refine ag fr (bF (fun h=>?_) (fun h=>?_));have Bi:y<8:=by omega
 have Bg:gr .u32=4294967296:=rfl;have cU:((sM s.l R.l y).map fun(n:Nat)=>u32 n)[0+y*1]?=some (u32 (s.l.getD y 0)):=by simp_all[Mv]
 have cR:(jM R)[0+y*1]?=some (u32 (R.l.getD y 0)):=by simp_all[jM]
 have a3:((sM s.l R.l y).map fun(n:Nat)=>u32 n).set (0+y*1) (u32 ((s.l.getD y 0+R.l.getD y 0)%4294967296))=(sM s.l R.l (y+1)).map fun(n:Nat)=>u32 n:=by grind[ae7,map_set]
 refine ag (fX (by omega) (by omega)) ?_;rw[Int.toNat_natCast];refine aY hO (ae.length+0) (az rfl) cU (ag (fX (by omega) (by omega)) ?_);rw[Int.toNat_natCast];refine aY hO (ae.length+(2+2)) (az (az (ae:=[_,_]) pk)) cR (ag (sH (k:=.u32) rfl) (ag (fX (by omega) (by omega)) ?_));rw[Int.toNat_natCast,Bg];refine fR hO (ae.length+0) (az rfl) rfl (ae5 cU) a3 ?_;intro H hO
 replace hO:=hO.cD
 repeat refine bH ?_
 exact⟨_,by omega,y+1,by omega,rfl,rfl,hO⟩;have mq:y=8:=by omega
 subst mq;rw[ae8]at hO;exact ah _ hO
theorem avZ{s:W8}(al:s.b4)(hO:aj H ae)(hv:RdB ae v b)(ak:∀x∈b,0<=x/\x<=255)(aD:b.length=64)(ah:∀ab,aj ab ae->aa (agg (jM (Dc s b))) ab):ay P 260 [agg (jM s),v] H aa:=by
 apply atZ;unfold adY;refine dH hO ?_;intro bp H hO;rw[aeY];refine dH hO ?_;intro c1 H hO;rw[append_assoc]at hO
 replace hO:aj H (ae++[(bp,⟨jM s,true⟩),(c1,⟨List.replicate 8 (u32 0),true⟩)]):=hO
 refine avK hO hv.app ak aD ?_;intro H hO;refine avH hO ?_;intro H zy hO;rw[aeZ];refine dH hO ?_;intro fK H hO;have xe:(iI b 64).length=64:=Ik 64;refine fT hO (_+0) (az rfl) (by simp) (FU (by omega)) (by simp[lL,eL]) ?_;intro H hO
 replace hO:=hO.cD
 refine gh hO (ae.length+0) (aL (aL (az rfl))) rfl (by omega) (dH hO ?_);intro dX H hO;refine fT hO (_+0) (az rfl) (by simp) rfl (Ms s) ?_;intro H hO
 replace hO:=hO.cD
 refine avR (hE:=iI b 64) al (Il ak 64) xe (az (k:=0) rfl) (aL (az (k:=0) rfl)) hO ?_;intro H b9 hO;refine k6 rfl ?_
 try simp only[cj,ck]
 generalize aX:sL (iI b 64) s 64=R at*;have bM:=Ii (w:=iI b 64) al 64;have hm:Dc s b=FT s R:=by simp_all[Dc]
 replace hO:aj H (ae++([(bp,⟨jM s,true⟩),(c1,⟨List.replicate 8 (u32 0),true⟩)]++([(zy,⟨kM.map fun(n:Nat)=>u32 n,true⟩)]++([(fK,⟨lL (iI b 64),true⟩)]++([(dX,⟨jM R,true⟩)]++b9))))):=by have h2:=hO;simp only[append_assoc]at h2;exact h2
 obtain⟨T,bk⟩:∃T,T=([(zy,(⟨kM.map fun(n:Nat)=>u32 n,true⟩:ax))]++([(fK,⟨lL (iI b 64),true⟩)]++([(dX,⟨jM R,true⟩)]++b9))):=⟨_,rfl⟩;have pk:T[2]?=some (dX,⟨jM R,true⟩):=by rw[bk];rfl
 rw[<- bk]at hO;refine avY pk hO ?_;intro H hO;rw[<- hm]at hO;refine k6 rfl ?_
 try simp only[cj,ck]
 refine gh hO (ae.length+0) (az rfl) rfl (by omega) (fT hO (ae.length+1) (az rfl) rfl rfl (Ms _) ?_);intro H hO
 replace hO:=hO.cD
 exact gh hO (ae.length+1) (az rfl) rfl (by omega) (ah _ hO.left)
end J
namespace J
open Go Go.Ab
variable[cu:b0]
variable{H:au}{ae:List (Nat×ax)}{aa:VH}{v w x:Value}{xs bh jV b:List Int}{j p bl:Nat}{e:Int}{aq:List Value}
def r6(v:Value)(xs:List Int)(aq:List Value):Prop:=
 (v=bu/\xs=[]/\aq=[])\/∃p o,(v=aC p o xs.length 2\/v=aC p o xs.length 3)/\(aq.drop o).take xs.length=bd xs/\o+xs.length<=aq.length/\aq.all fY=true
theorem gf.o(h:gf v xs aq):r6 v xs aq:=by
 rcases h with h|⟨p,h1,h2,h3,aG⟩
 exact .inl h;refine .inr ⟨p,0,?_,by simp_all,by omega,aG⟩
 grind
theorem r6.lY(h:r6 v xs aq):RdB (bQ v aq) v xs:=by
 rcases h with⟨rfl,rfl,_⟩|⟨p,o,h1|h1,h2,h3,aG⟩
 exact .nil;subst h1;exact .inr ⟨p,o,2,rfl,.inl rfl,.inr ⟨0,⟨aq,true⟩,rfl,h2⟩⟩;subst h1;exact .inr ⟨p,o,3,rfl,.inr rfl,.inr ⟨0,⟨aq,true⟩,rfl,h2⟩⟩
theorem av0(hO:aj H (ae++bQ v aq))(hv:r6 v xs aq)(ao:RdB ae x bh)(aD:xs.length+bh.length<=1000000000)
  (ah:∀ab aQ bE,aj ab (ae++bQ aQ bE)->r6 aQ (xs++bh) bE->aa aQ ab):af (gw 1 1 v x H) aa:=by
 rcases hv with⟨rfl,rfl,rfl⟩|⟨p,o,hv,h2,h3,aG⟩
 exact uv (xs:=[]) hO .nil ao aD fun ab aQ bE h1 h2=>ah ab aQ bE h1 (gf.o h2)
 unfold gw;simp only[ao.nC,ao.app.pL hO];by_cases ba:bh=[];subst ba;rw[append_nil]at ah;have e:rA 1 1 v ([]:List Value) 0 H=some (v,H):=by unfold rA;rcases hv with rfl|rfl<;>rfl
 exact bW (show rA 1 1 v ([]:List Value) 0 H=some (v,H)from e) (ah _ _ _ hO (.inr ⟨p,o,hv,h2,h3,aG⟩));have CN:0<bh.length:=length_pos_iff.2 ba;have rQ:Nat.beq bh.length 0=false:=by grind[eq_of_beq_eq_true]
 have h1:(bd bh).all eL=true:=by simp[eL]
 have zf:∀p,r6 (aC p 0 (xs.length+bh.length) 2) (xs++bh) (bd xs++bd bh):=fun p=>by
  refine .inr ⟨p,0,.inl (by simp_all),?_,by simp,by simp[fY,uo]⟩
  grind
 unfold rA;have tm:bQ v aq=[(p,⟨aq,true⟩)]:=by rcases hv with rfl|rfl<;>rfl
 rw[tm]at hO;have an:(ae++[(p,(⟨aq,true⟩:ax))])[ae.length]?=some (p,⟨aq,true⟩):=by simp
 have oP:=hO.at _ an (.inl rfl);rcases hv with rfl|rfl
 have x5:=hO.eF an;have he:(ae++[(p,(⟨aq,true⟩:ax))]).eraseIdx ae.length=ae:=by grind
 rw[he]at x5;simp only[rQ,Bool.false_eq_true,if_false];rw[if_pos (x4 (by omega) (by omega))];rw[if_neg (show¬Nat.beq 2 (2*1+1)=true by decide),if_pos (show Nat.beq 2 (2*1)=true by decide)];unfold BW;rw[oP];have e:(au.o2 H p ⟨aq,true⟩&&(Nat.ble (o+xs.length*1) (gi aq)&&kh eL (bd bh)))=true:=by unfold au.o2;rw[hO.dc,hB,kH,h1,mE,mE,decide_eq_true (by omega:o+xs.length*1<=aq.length)];simp
 simp only[e];have bt:iC (ry (qB aq (o+xs.length*1)) o) (bd bh)=bd xs++bd bh:=by simp_all[jm,n1,ni,drop_take]
 rw[bt];exact bW (show mB (bd xs++bd bh) (xs.length+bh.length) (2*1) (H.set p none)=some (aC H.next 0 (xs.length+bh.length) 2,(H.set p none).push (bd xs++bd bh))from rfl) (ah _ _ _ (x5.push _) (zf _));simp only[rQ,Bool.false_eq_true,if_false];rw[if_pos (x4 (by omega) (by omega))];rw[if_pos (show Nat.beq 3 (2*1+1)=true by decide)];unfold z1;have ei:(if Nat.beq xs.length 0=true then some []else s0 H p o (xs.length*1))=some (bd xs):=by simp_all[Cb,yI,ni,n1,hB]
 rw[ei];simp only[jm];exact bW (show mB (bd xs++bd bh) (xs.length+bh.length) (2*1) H=some (aC H.next 0 (xs.length+bh.length) 2,H.push (bd xs++bd bh))from rfl) (ah _ _ _ (hO.left.push _) (zf _))
theorem Mw{len n:Nat}(h:n<=len):qD len (some (int (n:Int)))=some n:=by
 show(match kx 0 (n:Int)with|true=>(match Nat.ble (n:Int).toNat len with|true=>some (n:Int).toNat|false=>none)|false=>none)=_
 simp_all[lf,ble_eq_true_of_le]
theorem av1(h:r6 v xs aq){n:Nat}(aU:n<=xs.length)(bJ:0<n):∃aQ,hI 1 v (some (int n)) none none=some aQ/\r6 aQ (xs.drop n) aq/\bQ aQ aq=bQ v aq:=by
 rcases h with⟨rfl,rfl,_⟩|⟨p,o,hv,h2,h3,aG⟩
 simp_all
 have ak:=Mw aU;have dy:∀c,(c=2\/c=3)->hI 1 (aC p o xs.length c) (some (int n)) none none=some (aC p (o+n) (xs.length-n) c):=by simp_all[hI,oG,sl,rC]
 have aO:(aq.drop (o+n)).take (xs.drop n).length=bd (xs.drop n):=by
  have:=congrArg (List.drop n) h2;rw[drop_take,drop_drop]at this
  simp_all
 rcases hv with rfl|rfl
 exact⟨_,dy 2 (.inl rfl),.inr ⟨p,o+n,.inl (by simp_all),aO,by grind,aG⟩,rfl⟩;exact⟨_,dy 3 (.inr rfl),.inr ⟨p,o+n,.inr (by simp_all),aO,by grind,aG⟩,rfl⟩
def tB(s:W8)(gk:Value)(n:Nat):List Value:=jM s++[gk,bT .u64 n]
abbrev nT(bl:Nat)(s:W8)(gk:Value)(n:Nat)(aq:List Value):List (Nat×ax):=[(bl,⟨tB s gk n,true⟩)]++bQ gk aq
theorem Sn(h:r6 v xs aq):∃a n c,v=.slice a n c:=by rcases h with⟨rfl,_⟩|⟨p,o,rfl|rfl,_⟩<;>exact⟨_,_,_,rfl⟩
theorem mS{a b:List Int}(bn:∀x∈a,0<=x/\x<=255)(ak:∀x∈b,0<=x/\x<=255):∀x∈a++b,0<=x/\x<=255:=fun x ao=>by grind
theorem av2{gk:Value}(hO:aj H (ae++nT bl (nr xs) gk xs.length aq))(hv:r6 gk (De xs) aq)(aM:RdB ae w bh)(ao:∀x∈xs,0<=x/\x<=255)(ba:∀x∈bh,0<=x/\x<=255)(aD:xs.length<=100000000)(q7:bh.length<=100000000)
  (ah:∀ab Di bE,aj ab (ae++nT bl (nr (xs++bh)) Di (xs++bh).length bE)->r6 Di (De (xs++bh)) bE->aa (.tuple [].toArray) ab):ay P 235 [ai bl 0,w] H aa:=by
 apply atC;unfold adD;rw[<- append_assoc]at hO;refine aV (aY hO (ae.length+0) (aL (az rfl)) (v:=bT .u64 xs.length) rfl (bW aM.bO (bW (Fm (by omega) (by omega)) ?_)));rw[Int.toNat_natCast];refine ag (sH (k:=.u64) rfl) ?_;rw[mod_eq_of_lt (show xs.length+bh.length<gr .u64 from(show _<18446744073709551616 by omega))];refine aV (fR hO (ae.length+0) (aL (az rfl)) rfl (show 9<10 by omega) (show _=tB (nr xs) gk (xs.length+bh.length)from rfl) ?_);intro H hO;rw[set_append_left _ _ (by simp),Go.Ab.cD]at hO
 replace hO:aj H ((ae++[(bl,⟨tB (nr xs) gk (xs.length+bh.length),true⟩)])++bQ gk aq):=hO
 refine aV (aY hO (ae.length+0) (aL (az rfl)) (v:=gk) rfl ?_);have FW:=Sk (xs:=xs);refine av0 hO hv aM.app (by omega) ?_;intro H zz mG hO jF;refine aV ?_;obtain⟨a0,hn,n5,eX⟩:=Sn jF;refine fR hO (ae.length+0) (aL (az rfl)) (by rw[eX];rfl) (show 8<10 by omega) (show _=tB (nr xs) zz (xs.length+bh.length)from rfl) ?_;intro H hO;rw[set_append_left _ _ (by simp),Go.Ab.cD]at hO
 replace hO:aj H ((ae++[(bl,⟨tB (nr xs) zz (xs.length+bh.length),true⟩)])++bQ zz mG):=hO
 have qJ:(xs++bh).length=xs.length+bh.length:=length_append;have dU:=mS ao ba;have a7:nr xs=qm (xs++bh) (xs.length/64):=(aeX _ (by omega)).symm;have bt:De xs++bh=(xs++bh).drop (64*(xs.length/64)):=by grind[De]
 rw[a7]at hO;rw[bt]at jF;rw[<- qJ]at hO;generalize aFS:xs++bh=jV at*;refine atB (fun k aA ab=>∃(m:Nat) (gk:Value) (aq:List Value),64*m<=jV.length/\k=jV.length/64-m/\aA=[ai bl 0]/\aj ab ((ae++[(bl,⟨tB (qm jV m) gk jV.length,true⟩)])++bQ gk aq)/\r6 gk (jV.drop (64*m)) aq) _ _ ?_ (jV.length/64-xs.length/64) _ _ ⟨xs.length/64,zz,mG,by omega,rfl,rfl,hO,jF⟩;rintro k aA H ⟨m,gk,aq,hm,rfl,rfl,hO,hv⟩;unfold adC
 try simp only[cj,ck]
 refine aV (aY hO (ae.length+0) (aL (az rfl)) (v:=gk) rfl (bW hv.lY.bO (ag um ?_)));rw[length_drop];refine bF (fun h=>?_) (fun h=>?_);refine aV (iH hO (ae.length+0) (aL (az rfl)) (show _=jM (qm jV m)from rfl) rfl (by omega) (aV (aY hO (ae.length+0) (aL (az rfl)) (v:=gk) rfl ?_)));obtain⟨av3,av4,bg⟩:=A8 (n:=64) hv.lY (by grind);refine ag av4 ?_;have mj:RdB ((ae++[(bl,(⟨tB (qm jV m) gk jV.length,true⟩:ax))])++bQ gk aq) av3 ((jV.drop (64*m)).take 64):=(bg _ hv.lY).app';refine avZ (Ij m) hO mj (fun x ao=>dU x (mem_of_mem_drop (mem_of_mem_take ao))) (by grind) ?_;intro H hO;refine aV (pR hO (ae.length+0) (aL (az rfl)) (show(dr (agg (jM (Dc (qm jV m) ((jV.drop (64*m)).take 64))))).length=8 from rfl) (show 0+8<=10 by omega) (Ms _) ?_);intro H hO;rw[set_append_left _ _ (by simp),Go.Ab.cD]at hO
 replace hO:aj H ((ae++[(bl,⟨tB (qm jV (m+1)) gk jV.length,true⟩)])++bQ gk aq):=hO
 refine aV (aY hO (ae.length+0) (aL (az rfl)) (v:=gk) rfl ?_);obtain⟨v3,ei,hJ,gE⟩:=av1 (n:=64) hv (by grind) (by omega);refine ag ei (aV ?_);obtain⟨a0,hn,n5,eX⟩:=Sn hJ;refine fR hO (ae.length+0) (aL (az rfl)) (by rw[eX];rfl) (show 8<10 by omega) (show _=tB (qm jV (m+1)) v3 jV.length from rfl) ?_
 grind[drop_drop]
 have em:m=jV.length/64:=by omega
 subst em;refine k6 rfl (ah H gk aq ?_ hv);rw[<- append_assoc];exact hO
theorem av5(s:W8)(a:Option Addr)(n c:Nat)(m:Nat):(dq P 391).f [(0,agg (jM s)),(1,.slice a n c),(2,bT .u64 m)]=some (agg (tB s (.slice a n c) m)):=by rfl
theorem av6(s:W8):(dq P 391).f [(0,agg (jM s))]=some (agg (tB s bu 0)):=by rfl
theorem Mx(hO:aj H ae)(ah:∀ab bl,aj ab (ae++nT bl (nr []) bu ([]:List Int).length [])->aa (ai bl 0) ab):ay P 234 [] H aa:=by apply atA;unfold adA;refine avI hO ?_;intro H hO;refine ag (av6 _) (dH hO ?_);intro bl H hO;exact ah H bl hO
theorem aj.My{i j p q:Nat}{b di:ax}(h:aj H ae)(an:ae[i]?=some (p,b))(bm:ae[j]?=some (q,di))(qM:i≠j):p≠q:=by
 intro e;subst e;have fo:(ae.map (·.1))[i]?=some p:=by simp_all
 have fN:(ae.map (·.1))[j]?=some p:=by simp_all
 have dw:i<(ae.map (·.1)).length:=by grind
 exact qM ((List.getElem?_inj dw h.tk).1 (fo.trans fN.symm))
theorem Sp{p o:Nat}{gk:Value}{bR:List Value}(hO:aj H ((ae++[(p,(⟨bR,true⟩:ax))])++bQ gk aq))(hv:r6 gk xs aq):qh (cm [ai p o]) (cm [.slice none 0 0,gk])/\qh (cm [.slice none 0 0,gk]) (cm [ai p o]):=by
 rcases hv with⟨rfl,_,_⟩|⟨q,dL,hv,_⟩
 exact⟨(by first|rfl|trivial),(by first|rfl|trivial)⟩;have tm:bQ gk aq=[(q,⟨aq,true⟩)]:=by rcases hv with rfl|rfl<;>rfl
 rw[tm]at hO;have dC:p≠q:=aj.My hO (i:=ae.length+0) (j:=(ae++[(p,(⟨bR,true⟩:ax))]).length+0) (aL (az rfl)) (az rfl) (by simp);have a7:Nat.beq p q=false:=by grind[eq_of_beq_eq_true]
 have bt:Nat.beq q p=false:=by grind[eq_of_beq_eq_true]
 rcases hv with rfl|rfl
 exact⟨by show oK [p] [q]=true;grind[oK,kH,s5],by show oK [q] [p]=true;grind[oK,kH,s5]⟩;exact⟨by show oK [p] [q]=true;grind[oK,kH,s5],by show oK [q] [p]=true;grind[oK,kH,s5]⟩
end J
namespace J
open Go Go.Ab
variable[cu:b0]
variable{H:au}{ae b9:List (Nat×ax)}{aa:VH}{v w x:Value}{xs bs:List Int}{bl:Nat}{aq:List Value}
theorem av7{s:W8}{gk:Value}{n:Nat}(hO:aj H ((ae++nT bl s gk n aq)++b9))(hv:r6 gk xs aq)(aD:xs.length<=1000000000)
  (ah:∀ab afa Di bE,aj ab (((ae++nT bl s gk n aq)++b9)++nT afa s Di n bE)->r6 Di xs bE->aa (ai afa 0) ab):ay P 251 [ai bl 0] H aa:=by
 apply atL;unfold adK;have hA:aj H ((ae++[(bl,⟨tB s gk n,true⟩)])++bQ gk aq):=by rw[append_assoc];exact hO.left
 have Ky:=Sp (o:=8) hA hv;have av8:=Sp (o:=9) hA hv;have av9:=Sp (o:=0) hA hv;have vk:∀ {R:List (Nat×ax)},(((ae++nT bl s gk n aq)++b9)++R)[ae.length+0]?=some (bl,⟨tB s gk n,true⟩):=aL (aL (az rfl));have Sq:((ae++nT bl s gk n aq)++b9)[ae.length+0]?=some (bl,⟨tB s gk n,true⟩):=aL (az rfl);have dw:bl<H.next:=hO.lt _ (mem_of_getElem? Sq);refine aV (iH hO _ Sq (show _=jM s from rfl) rfl (by omega) (aV (aY hO _ Sq (v:=gk) rfl ?_)));have mj:RdB ((ae++nT bl s gk n aq)++b9) gk xs:=by
  have h1:RdB (ae++nT bl s gk n aq) gk xs:=by rw[<- append_assoc];exact hv.lY.app'
  exact h1.app
 have dF:aj H (((ae++nT bl s gk n aq)++b9)++bQ bu []):=by rw[show bQ bu []=[]from rfl,append_nil];exact hO
 refine uv (xs:=[]) dF .nil mj (by simpa using aD) ?_;intro cJ zz mG hO jF;refine⟨av9.1,?_⟩;refine aV (aY hO _ vk (v:=bT .u64 n) rfl (⟨av8.2,uI dw,?_⟩));have bM:=gf.o jF;obtain⟨a0,hn,n5,eX⟩:=Sn bM;refine ag (by rw[eX];exact av5 s a0 hn n5 n) ?_;rw[<- eX];refine dH hO ?_;intro Io H hO;exact ah H Io zz mG (hO.fj (by rw[append_assoc];exact List.Perm.append_left _ perm_append_comm)) bM
def pn(bs:List Int):List Value:=bd bs++List.replicate (32-bs.length) (bT .u8 0)
theorem afb{bs:List Int}(h:bs.length<=32):(pn bs).length=32:=by grind[pn]
theorem afc{bs:List Int}{x:Int}(h:bs.length<32):(pn bs).set bs.length (.int .u8 x)=pn (bs++[x]):=by
 unfold pn;rw[set_append_right _ _ (by simp)];obtain⟨m,hm⟩:∃m,32-bs.length=m+1:=⟨31-bs.length,by omega⟩
 grind
theorem afd{s:W8}:(oj s).length=32:=rfl
theorem afe:∀(l:List Nat) (m i:Nat),m<l.length->i<4->(l.flatMap Bf)[4*m+i]?=(Bf (l.getD m 0))[i]?
 | [],_,_,h,_=>absurd h (not_lt_zero _)
 | a::l,0,i,_,an=>by rw[flatMap_cons,Nat.mul_zero,Nat.zero_add,List.getElem?_append_left (show i<(Bf a).length from an)];rfl
 | a::l,m+1,i,h,an=>by rw[flatMap_cons,List.getElem?_append_right (show(Bf a).length<=4*(m+1)+i by show 4<=_;omega),show 4*(m+1)+i-(Bf a).length=4*m+i by show _-4=_;omega,afe l m i (by grind) an];rfl
theorem awa{w i:Nat}(h:i<4):(Bf w)[i]?=some (((w/2^(24-8*i)%256:Nat):Int)):=by
 rcases i with _|_|_|_|i
 rfl;rfl;rfl;show some ((w%256:Nat):Int)=some (((w/2^0%256:Nat):Int))
 simp_all
 omega
theorem aff{s:W8}{m i:Nat}(hm:m<8)(an:i<4):(oj s).take (4*m+i)++[((s.l.getD m 0/2^(24-8*i)%256:Nat):Int)]=(oj s).take (4*m+i+1):=by
 have h1:=afe s.l m i (show m<8 from hm) an
 simp_all[awa,take_add_one,oj]
theorem afg{n i:Nat}(h:i<8):(uH n)[i]?=some (((n/2^(56-8*i)%256:Nat):Int)):=by simp_all[uH]
theorem afh{n:Nat}:∀x∈uH n,0<=x/\x<=255:=by intro x ao;obtain⟨i,_,rfl⟩:=mem_map.1 ao;omega
theorem FX{x:Int}(h:0<=x/\x<=255):∀y∈ [x],0<=y/\y<=255:=fun y ba=>by simp_all
theorem Ip{n:Nat}:∀y∈List.replicate n (0:Int),0<=y/\y<=255:=fun y ba=>by simp_all
theorem FY(x:Int)(H:au):(eV P 22 1).f [(0,.int .u8 x)] H=some (aC H.next 0 1 3,H.push [.int .u8 x]):=by rfl
theorem Sr{q c:Nat}{x:Int}(aB:c=2\/c=3):RdB (ae++[(q,(⟨[.int .u8 x],true⟩:ax))]) (aC q 0 1 c) [x]:=.inr ⟨q,0,c,rfl,aB,.inr ⟨ae.length+0,_,az rfl,rfl⟩⟩
theorem Bj:df P 52=List.replicate 32 (bT .u8 0):=by rfl
end J
namespace J
open Go Go.Ab
variable[cu:b0]
variable{H:au}{ae:List (Nat×ax)}{aa:VH}{v w x:Value}{xs bh jV:List Int}{bl:Nat}{e:Int}{aq:List Value}
structure lM (bl:Nat) (xs:List Int) (L:List (Nat×ax)):Prop where
 aFT::
 c6:∃gk aq,L=nT bl (nr xs) gk xs.length aq/\r6 gk (De xs) aq
theorem zA{L:List (Nat×ax)}(hO:aj H (ae++L))(aO:lM bl xs L)(aM:RdB ae w bh)(ao:∀x∈xs,0<=x/\x<=255)(ba:∀x∈bh,0<=x/\x<=255)(aD:xs.length<=100000000)(q7:bh.length<=100000000)
  (ah:∀ab cL,aj ab (ae++cL)->lM bl (xs++bh) cL->aa (.tuple [].toArray) ab):ay P 235 [ai bl 0,w] H aa:=by
 obtain⟨gk,aq,rfl,hv⟩:=aO.c6;exact av2 hO hv aM ao ba aD q7 fun ab Di bE h1 h2=>ah ab _ h1 ⟨Di,bE,rfl,h2⟩
theorem Iq{L:List (Nat×ax)}{y:Nat×ax}(hO:aj H ((ae++L)++[y])):aj H ((ae++[y])++L):=hO.fj (by rw[append_assoc,append_assoc];exact List.Perm.append_left _ perm_append_comm)
theorem Mz{L:List (Nat×ax)}{y:Nat×ax}(hO:aj H ((ae++[y])++L)):aj H (ae++L):=hO.sub (by rw[append_assoc];exact List.Sublist.append (List.Sublist.refl _) (sublist_append_right _ _))
theorem awb{L:List (Nat×ax)}{bp n:Nat}{bC:LX}{ch:LN}(hO:aj H (ae++L))(aO:lM bl (xs++[128]) L)(ao:∀x∈xs,0<=x/\x<=255)(aD:xs.length<=90000000)
  (ah:∀ab cL,aj ab (ae++cL)->lM bl (xs++[128]++List.replicate (nS xs.length) 0) cL->bC 0 [ai bp 0,ai bl 0,bT .u64 n] ab):
  eJ P true 67 RS 28 [ai bp 0,ai bl 0,bT .u64 n] H bC ch:=by
 refine atn (fun k aA ab=>∃(y:Nat) (L:List (Nat×ax)),y<=nS xs.length/\k=nS xs.length-y/\aA=[ai bp 0,ai bl 0,bT .u64 n]/\aj ab (ae++L)/\lM bl (xs++[128]++List.replicate y 0) L) _ _ ?_ (nS xs.length) _ _ ⟨0,L,by omega,rfl,rfl,hO,by rw[replicate_zero,append_nil];exact aO⟩;rintro k aA H ⟨y,L,ba,rfl,rfl,hO,aO⟩;unfold adk
 try simp only[cj,ck]
 obtain⟨gk,aq,rfl,hv⟩:=aO.c6;have hlen:(xs++[128]++List.replicate y (0:Int)).length=xs.length+1+y:=by grind
 have Ss:nS xs.length<64:=mod_lt _ (by decide);refine aV (aY hO (ae.length+0) (az rfl) (v:=gk) rfl (bW hv.lY.bO (ag ij ?_)));rw[Sk,hlen];refine bF (fun h=>?_) (fun h=>?_);have dw:y<nS xs.length:=by grind[nS]
 refine ik hO (FY 0 _) ?_;intro q H hO;have dF:=Iq hO;refine zA dF aO (Sr (.inr rfl)) (mS (mS ao (FX (by decide))) Ip) (FX (by decide)) (by omega) (by simp) ?_;intro H L hO aO;rw[append_assoc _ (List.replicate y 0),<- replicate_succ']at aO
 grind[Mz]
 have ba:y=nS xs.length:=by grind[nS]
 subst ba;exact ah H _ hO aO
theorem awc{L:List (Nat×ax)}{bp n:Nat}{bC:LX}{ch:LN}(hO:aj H (ae++L))(aO:lM bl jV L)(ao:∀x∈jV,0<=x/\x<=255)(aD:jV.length<=95000000)(aU:n<18446744073709551616)
  (ah:∀ab cL,aj ab (ae++cL)->lM bl (jV++uH n) cL->bC 2 [ai bp 0,ai bl 0] ab):
  eJ P true 67 RT 12 [ai bp 0,ai bl 0,bT .u64 n,int 0] H bC ch:=by
 refine ato (fun k aA ab=>∃(y:Nat) (L:List (Nat×ax)),y<=8/\k=8-y/\aA=[ai bp 0,ai bl 0,bT .u64 n,int y]/\aj ab (ae++L)/\lM bl (jV++(uH n).take y) L) _ _ ?_ 8 _ _ ⟨0,L,by omega,rfl,rfl,hO,by rw[take_zero,append_nil];exact aO⟩;rintro k aA H ⟨y,L,ba,rfl,rfl,hO,aO⟩;unfold adl
 try simp only[cj,ck]
 refine ag fr (bF (fun h=>?_) (fun h=>?_));have Bi:y<8:=by omega
 refine ag (v:=int ((8*y:Nat):Int)) (by grind[vA]) (ag (v:=int ((56-8*y:Nat):Int)) (by grind[ob]) (ag (zi (k:=.u64) rfl (show 56-8*y<=64 by omega)) (bW (uu (e6:=.u8) rfl) (ik hO (FY _ _) ?_))));intro q H hO;have dF:=Iq hO;have ak:(0:Int)<=((n/2^(56-8*y)%gr .u8:Nat):Int)/\((n/2^(56-8*y)%gr .u8:Nat):Int)<=255:=by have:=mod_lt (n/2^(56-8*y)) (show gr .u8>0 by decide);have e:gr .u8=256:=rfl;omega
 refine zA dF aO (Sr (.inr rfl)) (mS ao fun x ao=>afh x (mem_of_mem_take ao)) (FX ak) (by grind) (by simp) ?_;intro H L hO aO;have e:(uH n).take y++[((n/2^(56-8*y)%gr .u8:Nat):Int)]=(uH n).take (y+1):=by rw[take_add_one,afg Bi];rfl
 rw[append_assoc,e]at aO
 repeat refine bH ?_
 exact⟨8-(y+1),by omega,y+1,L,by omega,rfl,rfl,Mz hO,aO⟩;have ba:y=8:=by omega
 subst ba;rw[take_of_length_le (by rw[Mp];omega)]at aO;exact ah H L hO aO
theorem awd{s:W8}{bp gQ m:Nat}{v4 v5:Value}{bC:LX}{ch:LN}(hm:m<8)(hO:aj H (ae++[(gQ,⟨pn ((oj s).take (4*m)),true⟩)]))
  (ah:∀ab,aj ab (ae++[(gQ,⟨pn ((oj s).take (4*(m+1))),true⟩)])->bC 6 [ai bp 0,ai gQ 0,v4,v5] ab):
  eJ P true 67 RV 105553116266564 [ai bp 0,ai gQ 0,int m,u32 (s.l.getD m 0),v4,v5,int 0] H bC ch:=by
 refine atq (fun k aA ab=>∃(y:Nat),y<=4/\k=4-y/\aA=[ai bp 0,ai gQ 0,int m,u32 (s.l.getD m 0),v4,v5,int y]/\aj ab (ae++[(gQ,⟨pn ((oj s).take (4*m+y)),true⟩)])) _ _ ?_ 4 _ _ ⟨0,by omega,rfl,rfl,hO⟩;rintro k aA H ⟨y,ba,rfl,rfl,hO⟩;unfold adn
 try simp only[cj,ck]
 refine ag fr (bF (fun h=>?_) (fun h=>?_));have afi:y<4:=by omega
 have hlen:((oj s).take (4*m+y)).length=4*m+y:=by grind[afd]
 refine ag (v:=int ((4*m:Nat):Int)) (by grind[vA]) (ag (v:=int ((4*m+y:Nat):Int)) (by grind[jg]) (ag (v:=int ((8*y:Nat):Int)) (by grind[vA]) (ag (v:=int ((24-8*y:Nat):Int)) (by grind[ob]) (ag (zi (k:=.u32) rfl (show 24-8*y<=32 by omega)) (bW (uu (e6:=.u8) rfl) (ag (fX (by omega) (by omega)) ?_))))));rw[Int.toNat_natCast];refine fR hO (ae.length+0) (az rfl) rfl (show 0+(4*m+y)*1<(pn ((oj s).take (4*m+y))).length by grind[afb]) (show _=pn ((oj s).take (4*m+y+1))from ?_) ?_;rw[<- aff hm afi,<- afc (by omega),hlen,show 0+(4*m+y)*1=4*m+y by omega];rfl;intro H hO
 replace hO:=hO.cD
 repeat refine bH ?_
 exact⟨4-(y+1),by omega,y+1,by omega,rfl,rfl,hO⟩;have ba:y=4:=by omega
 subst ba;exact ah H hO
theorem awe{s:W8}{m:Nat}(h:m<8):Jx 8 1 (Eh P 338).f (agg (jM s)) (int m)=some (u32 (s.l.getD m 0)):=by
 rcases m with _|_|_|_|_|_|_|_|m
 rfl;rfl;rfl;rfl;rfl;rfl;rfl;rfl;omega
theorem awf{s:W8}{bp gQ:Nat}{bC:LX}{ch:LN}(hO:aj H (ae++[(gQ,⟨pn [],true⟩)]))
  (ah:∀ab,aj ab (ae++[(gQ,⟨bd (oj s),true⟩)])->bC 4 [ai bp 0,ai gQ 0] ab):
  eJ P true 67 RU 68 [ai bp 0,ai gQ 0,agg (jM s),int 0] H bC ch:=by
 refine atp (fun k aA ab=>∃(y:Nat),y<=8/\k=8-y/\aA=[ai bp 0,ai gQ 0,agg (jM s),int y]/\aj ab (ae++[(gQ,⟨pn ((oj s).take (4*y)),true⟩)])) _ _ ?_ 8 _ _ ⟨0,by omega,rfl,rfl,hO⟩;rintro k aA H ⟨y,ba,rfl,rfl,hO⟩;unfold adm
 try simp only[cj,ck]
 refine ag fr (bF (fun h=>?_) (fun h=>?_));have Bi:y<8:=by omega
 refine ag (awe Bi) (awd Bi hO ?_);intro H hO;refine k6 rfl ?_
 try simp only[cj,ck]
 repeat refine bH ?_
 exact⟨8-(y+1),by omega,y+1,by omega,rfl,rfl,hO⟩;have ba:y=8:=by omega
 subst ba;have e:pn ((oj s).take (4*8))=bd (oj s):=by rfl
 rw[e]at hO;exact ah H hO
end J
namespace J
open Go Go.Ab
variable[cu:b0]
variable{H:au}{ae:List (Nat×ax)}{aa:VH}{v x:Value}{xs:List Int}{j bl:Nat}{aq:List Value}
theorem MA{L:List (Nat×ax)}(hO:aj H (ae++L))(aO:lM bl xs L)(ao:∀x∈xs,0<=x/\x<=255)(aD:xs.length<=80000000)
  (ah:∀ab,aj ab (ae++L)->aa (agg (bd (gC xs))) ab):ay P 228 [ai bl 0] H aa:=by
 obtain⟨gk,aq,rfl,hv⟩:=aO.c6;apply atr;unfold ado;rw[Bj];refine dH hO ?_;intro bp H hO;have FW:=Sk (xs:=xs);refine av7 hO hv (by omega) ?_;intro H Io zz mG hO jF;have p7:lM Io xs (nT Io (nr xs) zz xs.length mG):=⟨zz,mG,rfl,jF⟩;refine aV (aY hO (_+0) (az rfl) (v:=bT .u64 xs.length) rfl ?_);refine ag (v:=bT .u64 (8*xs.length)) (by rw[show(Value.int .u64 8)=bT .u64 8 from rfl,QJ (k:=.u64) rfl,mod_eq_of_lt (show xs.length*8<gr .u64 from(show _<18446744073709551616 by omega)),Nat.mul_comm]) ?_;refine ik hO (FY 128 _) ?_;intro q H hO;have dF:=Iq hO;refine zA dF p7 (Sr (.inr rfl)) ao (FX (by decide)) (by omega) (by simp) ?_;intro H L hO p7;refine awb (Mz hO) p7 ao (by omega) ?_;intro H L hO p7;refine k6 rfl ?_
 try simp only[cj,ck]
 have Ss:nS xs.length<64:=mod_lt _ (by decide);have awg:∀x∈xs++[128]++List.replicate (nS xs.length) 0,0<=x/\x<=255:=mS (mS ao (FX (by decide))) Ip;refine awc hO p7 awg (by grind) (by omega) ?_;intro H L hO p7;refine k6 rfl ?_
 try simp only[cj,ck]
 replace p7:lM Io (xc xs) L:=p7
 obtain⟨aFU,FZ,rfl,aFV⟩:=p7.c6;refine dH hO ?_;intro gQ H hO;refine aV (iH hO (_+0) (aL (az rfl)) (show _=jM (nr (xc xs))from rfl) rfl (by omega) (awf hO ?_));intro H hO;refine k6 rfl ?_
 try simp only[cj,ck]
 refine iH hO (_+0) (az rfl) (show _=bd (gC xs)from rfl) rfl (by omega) ?_;have k2:∀ {R Mr:List (Nat×ax)},((((ae++nT bl (nr xs) gk xs.length aq)++[(bp,(⟨List.replicate 32 (bT .u8 0),true⟩:ax))])++R)++Mr)[(ae++nT bl (nr xs) gk xs.length aq).length+0]?=some (bp,⟨List.replicate 32 (bT .u8 0),true⟩):=aL (aL (az rfl));refine pR hO _ k2 rfl (show 0+32<=32 by omega) (show(bd (gC xs)).all eL=true by rfl) ?_;intro H hO;rw[set_append_left _ _ (by simp),set_append_left _ _ (by simp),Go.Ab.cD]at hO;exact iH hO ((ae++nT bl (nr xs) gk xs.length aq).length+0) (aL (aL (az rfl))) (show _=bd (gC xs)from rfl) rfl (by omega) (ah H hO.left.left.left)
theorem afj(a:Option Addr)(n c:Nat)(H:au):(eV P 369 1).f [(0,.slice a n c)] H=some (aC H.next 0 1 3,H.push [.slice a n c]):=by rfl
theorem St{q:Nat}(hO:aj H ae)(bY:ae[j]?=some (q,(⟨[v],true⟩:ax)))(hv:RdB ae v xs)(ao:∀x∈xs,0<=x/\x<=255)(aD:xs.length<=80000000)
  (ah:∀ab,aj ab ae->aa (agg (bd (gC xs))) ab):ay P 204 [aC q 0 1 3] H aa:=by
 apply ac4;unfold RQ;rw[Bj];refine dH hO ?_;intro bp H hO;refine Mx hO ?_;intro H bl hO;have aO:lM bl [] (nT bl (nr []) bu ([]:List Int).length []):=⟨bu,[],rfl,.inl ⟨rfl,rfl,rfl⟩⟩;refine bW ze ?_;generalize (nT bl (nr []) bu ([]:List Int).length [])=L at*;refine ac3 (fun k aA ab=>∃(y:Nat) (L:List (Nat×ax)),y<=1/\k=1-y/\aA=[ai bp 0,ai bl 0,aC q 0 1 3,int 1,int y]/\aj ab ((ae++[(bp,⟨List.replicate 32 (bT .u8 0),true⟩)])++L)/\lM bl (if y=0 then []else xs) L) _ _ ?_ 1 _ _ ⟨0,L,by omega,rfl,rfl,hO,aO⟩;rintro k aA H ⟨y,L,ba,rfl,rfl,hO,aO⟩;unfold RP
 try simp only[cj,ck]
 refine ag fr (bF (fun h=>?_) (fun h=>?_));have xf:y=0:=by omega
 subst xf;refine ag (jD (by omega) (by omega)) (aY hO j (aL (aL bY)) (v:=v) rfl (zA hO aO hv.app (by simp_all) ao (by simp) (by omega) ?_));intro H L hO aO
 repeat refine bH ?_
 exact⟨0,by omega,1,L,by omega,rfl,rfl,hO,aO⟩;have xf:y=1:=by omega
 subst xf;refine k6 rfl ?_
 try simp only[cj,ck]
 refine MA hO aO ao aD ?_;intro H hO;refine pR hO (ae.length+0) (aL (az rfl)) rfl (show 0+32<=32 by omega) (show(bd (gC xs)).all eL=true by rfl) ?_;intro H hO;rw[set_append_left _ _ (by simp),Go.Ab.cD]at hO;exact iH hO (ae.length+0) (aL (az rfl)) (show _=bd (gC xs)from rfl) rfl (by omega) (ah H hO.left.left)
end J
namespace J
open Go Go.Ab
variable[cu:b0]
variable{H:au}{ae:List (Nat×ax)}{aa:VH}{v:Value}{aq:List Value}{L:lK}{m:br}{part bc:Int}
def br.xg(m:br)(part:Int)(n:Nat):List Int:=(List.range n).flatMap fun(i:Nat)=>(m.fU part i).1
def br.all(m:br)(part:Int):List Int:=m.xg part (m.size part)
theorem br.afk{n:Nat}:m.xg part (n+1)=m.xg part n++(m.fU part n).1:=by simp_all[br.xg,range_succ]
theorem br.Su(ok:m.b4):∀n,(m.xg part n).length=64*n
 | 0=>rfl
 | n+1=>by rw[br.afk,length_append,br.Su ok n,br.zw ok];omega
theorem br.Ir(ok:m.b4):m.size part<=4096:=by unfold br.size;split;rename_i h;have h1:=ok.s _ (br.aeG h);have h2:=ok.d.n;omega;omega
theorem afl(ok:m.b4)(hO:aj H (ae++dJ L m))(ah:∀ab v aq,aj ab ((ae++dJ L m)++bQ v aq)->gf v (m.all part) aq->aa v ab):ay P 18 [ai L.cO 0,int part] H aa:=by
 apply aqQ;unfold aay;have fc:=br.Ir ok (part:=part);refine aeI hO (aqP (fun k aA ab=>∃(y:Nat) (v:Value) (aq:List Value),y<=m.size part/\k=m.size part-y/\aA=[ai L.cO 0,int part,bu,v,int (m.size part),int y]/\aj ab ((ae++dJ L m)++bQ v aq)/\gf v (m.xg part y) aq) _ _ ?_ (m.size part) _ _ ⟨0,bu,[],by omega,rfl,rfl,by rw[show bQ bu []=[]from rfl,append_nil];exact hO,.nil⟩);rintro k aA H ⟨y,v,aq,ba,rfl,rfl,hO,hv⟩;unfold aax
 try simp only[cj,ck]
 refine ag fr (bF (fun h=>?_) (fun h=>?_));have gR:y<m.size part:=by omega
 refine aeJ ok hO.oi ?_;intro H hO;have FW:=br.zw ok (part:=part) (bc:=y);refine ag kT (ag kU ?_);rw[C8];refine dH hO ?_;intro dX H hO
 replace hO:aj H (((ae++dJ L m)++[(dX,⟨bd tz,true⟩)])++bQ v aq):=hO.fj (by classical exact perm_iff_count.2 fun _=>by grind)
 refine fT hO ((ae++dJ L m).length+0) (aL (az rfl)) (by rfl) (by simp_all) (mn _) ?_;intro H hO;rw[set_append_left _ _ (by simp),Go.Ab.cD]at hO
 replace hO:aj H (((ae++dJ L m)++[(dX,⟨bd (m.fU part y).1,true⟩)])++bQ v aq):=hO
 refine ag (zj hO ((ae++dJ L m).length+0) (aL (az rfl)) (by omega) (by simp_all)) ?_;have mj:RdB ((ae++dJ L m)++[(dX,(⟨bd (m.fU part y).1,true⟩:ax))]) (aC dX 0 64 3) (m.fU part y).1:=.inr ⟨dX,0,3,by rw[FW],.inr rfl,.inr ⟨(ae++dJ L m).length+0,_,az rfl,by simp_all[take_of_length_le]⟩⟩;refine uv hO hv mj (by grind[br.Su]) ?_;intro H ec mG hO jF;rw[<- br.afk]at jF
 repeat refine bH ?_
 grind[aj.ca]
 have gR:y=m.size part:=by omega
 subst gR;exact k6 rfl (ah H v aq hO hv)
end J
