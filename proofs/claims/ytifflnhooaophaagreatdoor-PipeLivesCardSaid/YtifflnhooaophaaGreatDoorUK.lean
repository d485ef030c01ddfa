/- texts of the nf, fh behind the mA -/
import Derived.Test.YtifflnhooaophaaGreatDoorUJ
set_option linter.unusedVariables false
set_option linter.unusedSimpArgs false
set_option linter.unusedSectionVars false
set_option maxHeartbeats 4000000
set_option maxRecDepth 100000
open List Nat
namespace J
open Go Go.Ab
variable[cu:b0]
variable{H:au}{ae S F:List (Nat×ax)}{aa:VH}{v:Value}{p o k n:Nat}{e bc a:Int}{m:br}{L cL:lK}{aS:da}{w:bA}{B dG:jP}{x:List Int}{xs:List (List Int)}
theorem azZ{l r ep cy wr cC:Nat}{cQ bj:Int}{sv h0:Value}(hv:fY sv=true)(h2:fY h0=true):(i7 l cy cQ r aS sv ep h0 wr cC bj).all fY=true:=by
 show(true&&(true&&(true&&(true&&(bN aS sv++[int ep,h0,int wr,int cC,int bj]).all fY))))=true;rw[all_append,Bo hv];show(true&&(true&&(fY h0&&(true&&(true&&(true&&true))))))=true
 grind
theorem rk.tG{fy:List (List Int)}(h:rk S v fy):fY v=true:=by rcases h with⟨rfl,rfl⟩|⟨p,k,c,j,w,all,rfl,_⟩<;>rfl
theorem ks.tG(h:ks S w B):(B.jv w).all fY=true:=azZ h.sv.tG h.fy.tG
theorem br.az0(ok:m.b4){oq:Int}:(m.all oq).length=64*m.size oq:=br.Su ok _
theorem az1(aX:ks S w B)(fc:0<=w.aS.cT)(hm:w.m.gB 1000000)(hO:ke H S F w B)(ah:∀ab dG,B.et dG->ks S w.kF dG->ke ab S F w.kF dG->aa (.tuple [].toArray) ab):ay P 142 [ai B.c 0] H aa:=by
 apply asu;unfold ach;have aO:=aX.aS.dh;refine aV (kd hO 3 rfl (v:=ai B.l 0) rfl (aV (kd hO 3 rfl (v:=bT .u64 w.cy) rfl (azp aX.s aX.m.ok hm hO aX.own (Dy B w) ?_))));intro H cL he hO hv;refine aV (T6 aO he hO ?_);intro H hO
 replace hO:ke H S F w.oY (B.at cL):=hO
 have jl:ks S w.oY (B.at cL):=aX.put (T1 aX.m ahk) hv;have IZ:B.et (B.at cL):=jP.ho he;have qe:w.oY.aS=w.aS:=rfl;have jJ:w.oY.s=w.s:=rfl;have wI:w.oY.cQ=w.cQ:=rfl;unfold bA.kF at ah;generalize w.oY=dT at*;rw[show B.c=(B.at cL).c from rfl];generalize B.at cL=ot at*;have rH:=jl.aS.dh;refine aV (kd hO 3 rfl (Np rH) (ag ij (bF (fun h=>?_) (fun h=>?_))));rw[if_pos h]at ah;exact ah H ot IZ jl hO;rw[if_neg h]at ah;refine aV (kd hO 3 rfl (v:=ai ot.l 0) rfl (aV (kd hO 3 rfl (v:=int dT.cQ) rfl (azl jl.m.ok hO (Dy ot dT) ?_))));intro H az2 gu hO Nt;rw[jJ,wI]at Nt;have vl:=br.azO (oq:=w.s.part w.cQ) jl.m.b;have lo:=br.az0 (oq:=w.s.part w.cQ) jl.m.ok;have aGh:=br.Ir (part:=w.s.part w.cQ) jl.m.ok;generalize dT.m.all (w.s.part w.cQ)=b at*;refine e3 (fun aA ab=>aA=[ai ot.c 0,.bool (decide ((b.length:Int)<w.aS.cT\/gC (b.take w.aS.cT.toNat)≠w.aS.cn))]/\ke ab S F dT ot) ?_ ?_;refine bW Nt.bO (aV (ag b7 (kd hO.left 3 rfl (show(ot.jv dT)[0+4+2]?=some (int w.aS.cT) by rw[<- qe];rfl) (ag fr (bF (fun h1=>?_) (fun h1=>?_))))));exact ag (gA h1) (⟨by simp[h1],hO.left⟩);refine aV (ag b7 (kd hO.left 3 rfl (show(ot.jv dT)[0+4+2]?=some (int w.aS.cT) by rw[<- qe];rfl) ?_));obtain⟨ej,a7,i1⟩:=A8 Nt.lY (n:=w.aS.cT.toNat) (by omega);rw[Int.toNat_of_nonneg fc]at a7;refine ag a7 ?_;have nL:=(i1 _ Nt.lY).app' (ae:=(((S++F)++ot.ga dT)++dJ ot.L dT.m))
 obtain⟨a,mC,bV,rfl⟩:=nL.lk;refine ik hO (afj _ _ _ _) ?_;have tx:=hO;intro q bB hO;have ez:=hO;refine St (j:=_+0) hO (az rfl) nL.app (fun x ao=>vl x (mem_of_mem_take ao)) (by rw[length_take];omega) ?_;intro cJ hO;refine aV (ag b7 ?_);have an:((((S++F)++ot.ga dT)++dJ ot.L dT.m)++bQ az2 gu)[(S++F).length+3]?=some (ot.c,⟨ot.jv dT,true⟩):=aL (aL (az rfl));refine iH hO _ (aL an) (show _=bd w.aS.cn by rw[<- qe];exact azS rH) (by simp_all) (by omega) (⟨ho ez _ (aL an) hO _ (aL an) jl.tG,Ni (ab:=H) tx an _,?_⟩);exact ag (MJ _ qn (by omega)) (ag (gP h1) (⟨by simp[h1],hO.left.left⟩));rintro aA H ⟨rfl,hO⟩
 try simp only[cj,ck]
 refine bF (fun h1=>?_) (fun h1=>?_);rw[if_pos h1]at ah;refine aV (vX hO 3 (o:=0+45) rfl rfl (by simp_all[jP.jv,vW]) (T5 rH 153) ?_);intro H hO;exact ah H ot IZ ⟨jl.q,jl.aS,jl.sv,jl.fy,jl.qu,jl.s,jl.m,jl.own,jl.ep,jl.wr⟩ hO;rw[if_neg h1]at ah;refine aV (vX hO 3 (o:=0+44) rfl rfl (by simp_all[jP.jv,vW]) (Nq rH 4) ?_);intro H hO;exact ah H ot IZ ⟨jl.q,jl.aS,jl.sv,jl.fy,jl.qu,jl.s,jl.m,jl.own,jl.ep,jl.wr⟩ hO
theorem rk.cons(h:rk S v (x::xs)):x.length=64/\∃(p k c j:Nat) (w:Bool) (all:List (List Int)),v=aC p (k*64) (xs.length+1) c/\(c=128\/c=129)/\x::xs=all.drop k/\k<all.length/\S[j]?=some (p,⟨sU all,w⟩)/\(∀y∈all,y.length=64)/\((sU all).drop (k*64)).take 64=bd x:=by
 rcases h with⟨_,h⟩|⟨p,k,c,j,w,all,h1,h2,h3,aG,a6,aB⟩
 cases h;have l1:k<all.length:=by grind
 have ao:all[k]=x:=by grind[drop_eq_getElem_cons]
 refine⟨ao▸a6 _ (getElem_mem l1),p,k,c,j,w,all,h1,aB,h2,l1,aG,a6,?_⟩;have bq:=Ib (f:=bd) (l:=all) (n:=64) (o:=0) (m:=64) (fun s ao=>by simp_all) l1 (by omega);rw[Nat.add_zero]at bq;unfold sU;rw[bq,drop_zero,ao];exact take_of_length_le (by grind)
theorem az3{p o n c:Nat}(aB:c=128\/c=129):hI 64 (aC p o (n+1) c) (some (int 1)) none none=some (aC p (o+64) n c):=by
 have e:Nat.beq (n+1) (n+1)=true:=beq_refl _;rcases aB with rfl|rfl
 rfl;show some (Value.slice (some ⟨p,o+1*64,none⟩) (n+1-1) (cond (false||Nat.beq (n+1) (n+1)) 129 128))=_
 grind
theorem az4{s:fF}{cy:Nat}{f:br->br×Int}(h:(s.as m cy f).2=0):(f {m with ct:=s.jy}).2=0:=by grind[fF.as]
theorem az5{oq:Int}(h:(m.fE oq bc x).2=0):bc<m.size oq:=by
 unfold br.fE at h;split at h;omega;rename_i h1;have h1:(m.gj oq bc).2=0:=Classical.not_not.1 h1;unfold br.gj at h1;split at h1;cases h1;split at h1;cases h1
 simp_all[br.size]
theorem rk.tail(h:rk S v (x::xs)):∃aQ,hI 64 v (some (int 1)) none none=some aQ/\rk S aQ xs:=by
 obtain⟨aD,p,k,c,j,w,all,rfl,aB,h2,ah,aG,a6,_⟩:=h.cons;refine⟨_,az3 aB,.inr ⟨p,k+1,c,j,w,all,?_,?_,by omega,aG,a6,aB⟩⟩
 simp_all
 grind[drop_eq_getElem_cons]
theorem az6(aX:ks S w B)(nR:w.fy=x::xs)(hm:w.m.gB 1000000)(hO:ke H S F w B)(ah:∀ab dG,B.et dG->ks S (w.fill x xs) dG->ke ab S F (w.fill x xs) dG->aa (.tuple [].toArray) ab):ay P 143 [ai B.c 0] H aa:=by
 apply asv;unfold aci;have aO:=aX.aS.dh;have yf:=aX.fy;rw[nR]at yf;have az7:cE x:=aX.qu x (by simp_all);obtain⟨aD,p,k,c,j,pq,all,Lg,aB,h2,l1,aG,a6,bq⟩:=yf.cons;refine aV (kd hO 3 rfl (v:=ai B.l 0) rfl (aV (kd hO 3 rfl (v:=bT .u64 w.cy) rfl (aV (kd hO 3 rfl (T4 aO) (aV (kd hO 3 rfl (T3 aO) ?_)))))));rw[Lg];refine ag (jD (by omega) (by omega)) (iH hO j (aL (aL (aL aG))) (show _=bd x by simp_all) (by simp_all) (by omega) (azo (sS:=x) aX.s aX.m.ok hm aD hO aX.own (Dy B w) ?_));intro H cL he hO hv;refine aV (T6 aO he hO ?_);intro H hO
 replace hO:ke H S F (w.rj x) (B.at cL):=hO
 have jl:ks S (w.rj x) (B.at cL):=aX.put (T1 aX.m (ahl aD az7)) hv;have IZ:B.et (B.at cL):=jP.ho he;have rH:=jl.aS.dh;refine aV (kd hO 3 rfl (Np rH) (ag e2 ?_));unfold bA.fill at ah;refine bF (fun h=>?_) (fun h=>?_);rw[if_pos h]at ah;have dw:(w.wr:Int)<w.m.size (w.s.part w.s.cQ):=az5 (m:={w.m with ct:=w.s.jy}) (az4 h);have fc:=br.Ir aX.m.ok (part:=w.s.part w.s.cQ);refine aV (kd hO 3 rfl (T3 rH) ?_);obtain⟨aQ,a7,r1⟩:=yf.tail;refine ag a7 (aV (vX hO 3 (o:=0+42) rfl r1.fh (by simp_all[jP.jv,vW]) (ahi rH aQ) ?_));intro H hO;refine aV (kd hO 3 (v:=int w.wr) rfl (T4 rH) (ag (v:=int ((w.wr+1:Nat):Int)) (by grind[jg]) (aV (vX hO 3 (o:=0+43) rfl rfl (by simp_all[vW]) (azU rH (w.wr+1)) ?_))));intro H hO;exact ah H {B.at cL with h0:=aQ} ⟨rfl,rfl,rfl,rfl,rfl,he⟩ ⟨jl.q,jl.aS,jl.sv,r1,fun y ba=>aX.qu y (by grind),jl.s,jl.m,jl.own,jl.ep,by grind⟩ hO;rw[if_neg h]at ah;exact ah H _ IZ jl hO
end J
namespace J
open Go Go.Ab
variable[cu:b0]
variable{H:au}{b9 S F X:List (Nat×ax)}{aa:VH}{v aZ:Value}{p o k n:Nat}{e a b5:Int}{m:br}{aS aK:da}{w:bA}{B dG:jP}{bs x:List Int}
def bA.sc(w:bA)(m:da):Int:=if¬eG m then 192 else if m.cT>64*(w.size:Int)then 145 else 0
def bA.BE(w:bA)(m:da):bA:=if w.sc m=0 then {w with aS:=m,cC:=1}else w
theorem bA.az8(w:bA)(m:da):w.xq m={w.BE m with bj:=w.sc m}:=by
 unfold bA.xq bA.BE;by_cases h:eG m;by_cases h2:m.cT>64*(w.size:Int);have e:w.sc m=145:=by simp_all[bA.sc]
 simp_all
 have e:w.sc m=0:=by simp_all[bA.sc]
 simp_all
 have e:w.sc m=192:=by simp_all[bA.sc]
 simp_all
theorem ks.bj(h:ks S w B)(e:Int):ks S {w with bj:=e} B:=⟨h.q,h.aS,h.sv,h.fy,h.qu,h.s,h.m,h.own,h.ep,h.wr⟩
theorem az9{t:TypeId}{c:Bool}{n:Nat}(h:n<=4096):(ar P .mul t c).f (.int .i64 64) (int n)=some (int (64*(n:Int))):=TG (by omega) (by omega)
theorem aAa(aX:ks S w B)(ok:aK.b4)(aB:e8 S aZ aK.aN)(hO:ke H S F w B)(ah:∀ab dG,B.et dG->ks S (w.BE aK) dG->ke ab S F (w.BE aK) dG->aa (int (w.sc aK)) ab):ay P 207 [ai B.c 0,agg (int b5::bN aK aZ)] H aa:=by
 apply atc;unfold ac6;have aO:=aX.aS.dh;rw[sa];refine dH hO ?_;intro eQ H hO
 replace hO:=Nr hO
 have h3:∀ {b9},((((S++(F++[(eQ,(⟨int b5::bN aK aZ,true⟩:ax))]))++B.ga w)++b9))[S.length+(F.length+0)]?=some (eQ,⟨int b5::bN aK aZ,true⟩):=aL (aL (az (az rfl)));have ahm:((int b5::bN aK aZ).drop (0+1)).take 37=bN aK aZ:=take_of_length_le (Nat.le_of_eq (eS ok.dh));have Rb:(⟨int b5::bN aK aZ,true⟩:ax).cells.all fY=true:=by show(true&&(bN aK aZ).all fY)=true;rw[Bo aB.tG];rfl
 refine ag b7 (iH hO _ h3 ahm (eS ok.dh) (by omega) (F4 ok aB.app.app.app hO ?_));intro H hO;refine ag ix ?_;by_cases U:eG aK;refine dP (by simp[U]) (ag b7 (ag b7 (aY hO _ h3 (v:=int aK.cT) rfl (aV (kd hO 3 rfl (v:=ai B.l 0) rfl (aV (kd hO 3 rfl (v:=int w.cQ) rfl ?_)))))));have ez:=hO;refine TT hO (Dy B w) ?_;intro cJ hO;refine⟨ho ez _ h3 hO _ h3 Rb,?_⟩;have fc:=br.Ir aX.m.ok (part:=w.s.part w.cQ);refine ag (az9 fc) (ag kS (bF (fun h=>?_) (fun h=>?_)));have e:w.sc aK=145:=by unfold bA.sc;rw[if_neg (by simp[U])];exact if_pos h
 unfold bA.BE at ah;rw[e,if_neg (by decide)]at ah;exact ah cJ B .fC aX (BD hO);have e:w.sc aK=0:=by unfold bA.sc;rw[if_neg (by simp[U])];exact if_neg h
 unfold bA.BE at ah;rw[e,if_pos rfl]at ah;refine ag b7 (iH hO _ h3 ahm (eS ok.dh) (by omega) (aV (pR hO ((S++(F++[(eQ,(⟨int b5::bN aK aZ,true⟩:ax))])).length+3) (aL (az rfl)) (eS ok.dh) (by simp_all[jP.jv,vW]) (nt aB.fh) ?_)));intro H hO;rw[set_append_left _ _ (by simp[jP.ga,Ns];omega),Go.Ab.cD]at hO;rw[show(B.jv w).take (0+4)++(dr (agg (bN aK aZ))++(B.jv w).drop (0+4+37))=i7 B.l w.cy w.cQ B.A.r aK aZ w.ep B.h0 w.wr w.cC w.bj from azV aO ok.dh]at hO
 replace hO:ke H S (F++[(eQ,⟨int b5::bN aK aZ,true⟩)]) {w with aS:=aK} {B with sv:=aZ}:=hO
 refine aV (vX hO 3 (o:=0+44) rfl rfl (by rw[jP.jv,vW ok.dh];omega) (Nq ok.dh 1) ?_);intro H hO;exact ah H {B with sv:=aZ} ⟨rfl,rfl,rfl,rfl,rfl,.fC⟩ ⟨aX.q,ok,aB,aX.fy,aX.qu,aX.s,aX.m,aX.own,aX.ep,aX.wr⟩ (BD hO);refine eT (by simp[U]) ?_;have e:w.sc aK=192:=by simp_all[bA.sc]
 unfold bA.BE at ah;rw[e,if_neg (by decide)]at ah;exact ah H B .fC aX (BD hO)
def bA.vZ(w:bA)(a:Int)(bs:List Int):Int:=if a≠w.ep\/(gy w.aS a).2=0\/(bs.length:Int)≠(gy w.aS a).2 then 192 else 0
def bA.zK(w:bA)(a:Int)(bs:List Int):bA:=if w.vZ a bs=0 then {w with fy:=mV bs,ep:=w.ep+1}else w
theorem bA.aAb(w:bA)(a:Int)(bs:List Int):w.body a bs={w.zK a bs with bj:=w.vZ a bs}:=by
 unfold bA.body bA.zK;by_cases h:a≠w.ep\/(gy w.aS a).2=0\/(bs.length:Int)≠(gy w.aS a).2
 simp_all[bA.vZ]
 have e:w.vZ a bs=0:=by unfold bA.vZ;omega
 grind
theorem aAc(h:(gy aS a).2≠0):eG aS/\0<=a/\a<aS.aN.length/\aS.aN.length<=64/\0<=(gy aS a).2/\(gy aS a).2<=1024:=by
 unfold gy at h⊢;split at h;omega;rename_i h1;have U:eG aS:=Classical.byContradiction fun h2=>h1 (.inl h2)
 obtain⟨dt,cP,sz,Ng⟩:=Nf (i:=a) U (by omega) (by omega);obtain⟨_,_,_,_,_,dZ,gd,_,_,aU⟩:=U
 grind
theorem aAd{b:List Int}(h:cE b):∀s∈mV b,cE s:=by
 intro s al;obtain⟨k,_,rfl⟩:=mem_map.1 al;intro x ao;rcases mem_append.1 ao with h1|h1
 grind
 simp_all
theorem aAe{fy:List (List Int)}(hv:iV 64 v fy.length (sU fy))(aD:∀s∈fy,s.length=64):rk (bQ v (sU fy)) v fy:=by
 rcases hv with⟨rfl,h,_⟩|⟨p,h,_⟩
 exact .inl ⟨rfl,length_eq_zero_iff.1 h⟩;have aB:∃c,v=aC p 0 fy.length c/\(c=128\/c=129):=by grind
 obtain⟨c,rfl,aB⟩:=aB;exact .inr ⟨p,0,c,0,true,fy,by rfl,rfl,by omega,rfl,aD,aB⟩
theorem aAf(aX:ks S w B)(hv:RdB S v bs)(ak:cE bs)(hO:ke H S F w B)(ah:∀ab dG X,B.et dG->ks (S++X) (w.zK a bs) dG->ke ab (S++X) F (w.zK a bs) dG->aa (int (w.vZ a bs)) ab):ay P 208 [ai B.c 0,agg [int a,v]] H aa:=by
 apply atd;unfold ac7;have aO:=aX.aS.dh;have hU:∀ab dG,B.et dG->ks S (w.zK a bs) dG->ke ab S F (w.zK a bs) dG->aa (int (w.vZ a bs)) ab:=fun ab dG h1 h2 h3=>ah ab dG [] h1 h2.app (by rw[append_nil];exact h3)
 rw[sa];refine dH hO ?_;intro eQ H hO
 replace hO:=Nr hO
 have h3:∀ {b9},((((S++(F++[(eQ,(⟨[int a,v],true⟩:ax))]))++B.ga w)++b9))[S.length+(F.length+0)]?=some (eQ,⟨[int a,v],true⟩):=aL (aL (az (az rfl)));refine aV (iH hO ((S++(F++[(eQ,(⟨[int a,v],true⟩:ax))])).length+3) (aL (az rfl)) (azR aO) (eS aO) (by omega) (ag b7 (aY hO _ h3 (v:=int a) rfl (TH aX.aS aX.sv.app.app.app hO ?_))));intro H hO;refine ag rfl (ag rfl ?_);have iY:(a≠w.ep\/(gy w.aS a).2=0\/(bs.length:Int)≠(gy w.aS a).2)->∀ab,ke ab S (F++[(eQ,⟨[int a,v],true⟩)]) w B->aa (int 192) ab:=by
  intro h ab hO;have e:w.vZ a bs=192:=by simp_all[bA.vZ]
  unfold bA.zK at hU;rw[e,if_neg (by decide)]at hU;exact hU ab B .fC aX (BD hO)
 refine e3 (fun aA ab=>aA=[ai B.c 0,ai eQ 0]/\¬(a≠w.ep\/(gy w.aS a).2=0\/(bs.length:Int)≠(gy w.aS a).2)/\ke ab S (F++[(eQ,⟨[int a,v],true⟩)]) w B) ?_ ?_;refine ag b7 (aY hO _ h3 (v:=int a) rfl (aV (kd hO 3 rfl (T2 aO) (ag ij (bF (fun h=>?_) (fun h=>?_))))));exact ag (gA h) (ag j9 (eT rfl (iY (.inl h) H hO)));refine ag e2 (ag (gP h) (bF (fun h1=>?_) (fun h1=>?_)));exact ag (gA h1) (eT rfl (iY (.inr (.inl h1)) H hO));refine ag b7 (aY hO _ h3 (v:=v) rfl (bW hv.bO (ag ij (ag (gP h1) (bF (fun h2=>?_) (fun h2=>?_))))));exact iY (.inr (.inr h2)) H hO;exact⟨rfl,fun aG=>by omega,hO⟩;rintro aA H ⟨rfl,zI,hO⟩
 try simp only[cj,ck]
 have rV:(gy w.aS a).2≠0:=fun h=>zI (.inr (.inl h))
 have ahn:a=w.ep:=Classical.byContradiction fun h=>zI (.inl h)
 have ph:(bs.length:Int)=(gy w.aS a).2:=Classical.byContradiction fun h=>zI (.inr (.inr h))
 obtain⟨_,cg,cd,g3,g4,g5⟩:=aAc rV;have e:w.vZ a bs=0:=by simp_all[bA.vZ]
 unfold bA.zK at ah;rw[e,if_pos rfl]at ah;refine ag b7 (aY hO _ h3 (v:=v) rfl (azK hO hv.app.app.app (by omega) ?_));intro H vs hO vo
 replace hO:=azW hO
 have yf:rk (S++bQ vs (sU (mV bs))) vs (mV bs):=by
  have:=aAe vo azw;rcases this with h|⟨p,k,c,j,aW,all,h1,h2,h3,aG,a6⟩
  exact .inl h;exact .inr ⟨p,k,c,S.length+j,aW,all,h1,h2,h3,az aG,a6⟩
 refine aV (vX hO 3 (o:=0+42) rfl yf.fh (by simp_all[jP.jv,vW]) (ahi aO vs) ?_);intro H hO;refine aV (kd hO 3 (v:=int w.ep) rfl (T2 aO) ?_);have xN:=aX.ep;refine ag (v:=int ((w.ep+1:Nat):Int)) (by grind[jg]) (aV (vX hO 3 (o:=0+41) rfl rfl (by grind[vW]) (azT aO (w.ep+1)) ?_));intro H hO;exact ah H {B with h0:=vs} _ ⟨rfl,rfl,rfl,rfl,rfl,.fC⟩ ⟨aX.q.app,aX.aS,aX.sv.app,yf,aAd ak,aX.s,aX.m,aX.own,by grind,aX.wr⟩ (BD hO)
end J
namespace J
open Go Go.Ab
variable[cu:b0]
variable{H:au}{ae jz b9 S F X:List (Nat×ax)}{aa:VH}{v aZ:Value}{bE:List Value}{o n:Nat}{e a b5:Int}{m:br}{L:lK}{aS aK:da}{w:bA}{B dG:jP}{bs x:List Int}{xs:List (List Int)}{eb:ib}
theorem aAg(x:Value):ng 316 (iL P 316) (.iface 313 x)=some (.tuple #[agg (df P 316),.bool false]):=by rfl
theorem aho(x:Value):ng 316 (iL P 316) (.iface 316 x)=some (.tuple #[x,.bool true]):=by rfl
theorem ahp(x:Value):ng 316 (iL P 316) (.iface 327 x)=some (.tuple #[agg (df P 316),.bool false]):=by rfl
theorem ahq(x:Value):ng 316 (iL P 316) (.iface 320 x)=some (.tuple #[agg (df P 316),.bool false]):=by rfl
theorem aAh(x:Value):ng 327 (iL P 327) (.iface 313 x)=some (.tuple #[agg (df P 327),.bool false]):=by rfl
theorem aAi(x:Value):ng 327 (iL P 327) (.iface 316 x)=some (.tuple #[agg (df P 327),.bool false]):=by rfl
theorem aAj(x:Value):ng 327 (iL P 327) (.iface 327 x)=some (.tuple #[x,.bool true]):=by rfl
theorem aAk(x:Value):ng 327 (iL P 327) (.iface 320 x)=some (.tuple #[agg (df P 327),.bool false]):=by rfl
theorem aAl(x:Value):ng 320 (iL P 320) (.iface 313 x)=some (.tuple #[agg (df P 320),.bool false]):=by rfl
theorem aAm(x:Value):ng 320 (iL P 320) (.iface 316 x)=some (.tuple #[agg (df P 320),.bool false]):=by rfl
theorem aAn(x:Value):ng 320 (iL P 320) (.iface 320 x)=some (.tuple #[x,.bool true]):=by rfl
theorem ahr(x:Value):Ad 316 (.iface 316 x)=some x:=by rfl
theorem aAo(x:Value):Ad 320 (.iface 320 x)=some x:=by rfl
theorem Nu:df P 327=[int 0,bu]:=by rfl
theorem aAp(aO:w.aS.cn.length=32)(hO:ke H S F w B)(e:Int)(ah:∀ab,ke ab S F {w with bj:=e} B->aa undef ab):af (bx 1 (ai B.c 45) (int e) H) aa:=
 vX hO 3 (o:=0+45) rfl rfl (by simp_all[jP.jv,vW]) (T5 aO e) ah
theorem aAq(aX:ks S w B)(aU:xk S eb [v])(hO:ke H S F w B)(ah:∀ab dG X,B.et dG->ks (S++X) (w.iJ eb) dG->ke ab (S++X) F (w.iJ eb) dG->aa (.tuple [].toArray) ab):ay P 144 [ai B.c 0,v] H aa:=by
 apply asx;unfold RO;have aO:=aX.aS.dh;have hU:∀ab dG,B.et dG->ks S (w.iJ eb) dG->ke ab S F (w.iJ eb) dG->aa (.tuple [].toArray) ab:=fun ab dG h1 h2 h3=>ah ab dG [] h1 h2.app (by rw[append_nil];exact h3)
 refine dH hO ?_;intro bp H hO
 replace hO:=Nr hO
 replace hO:ke H S (F++[(bp,⟨[ai B.c 0],true⟩)]) w B:=hO
 have h2:∀ {b9 h8 sV dG aW},((((h8++((F++[(bp,(⟨[ai B.c 0],true⟩:ax))])++sV))++jP.ga dG aW)++b9))[h8.length+(F.length+0)]?=some (bp,⟨[ai B.c 0],true⟩):=aL (aL (az (aL (az rfl))));have ql:∀ {b9 h8 dG aW},((((h8++(F++[(bp,(⟨[ai B.c 0],true⟩:ax))]))++jP.ga dG aW)++b9))[h8.length+(F.length+0)]?=some (bp,⟨[ai B.c 0],true⟩):=aL (aL (az (az rfl)));refine aY hO _ ql (v:=ai B.c 0) rfl (aV (kd hO 3 rfl (IX aO) (ag e2 ?_)));have dy:∀(e:Int) (dT:bA) (ot:jP) (bB:au) (S1:List (Nat×ax)) (X:List (Nat×ax)),S1=S++X->B.et ot->ks S1 dT ot->ke bB S1 (F++[(bp,⟨[ai B.c 0],true⟩)]) dT ot->w.iJ eb={dT with bj:=e}->
   af (bx 1 (ai ot.c 45) (int e) bB) fun u cJ=>aa (.tuple [].toArray) cJ:=by
  intro e dT ot bB S1 X bI b6 jl ez he;subst bI;refine aAp jl.aS.dh ez e ?_;intro cJ dF;refine ah cJ ot X b6 ?_ ?_;rw[he];exact jl.bj e;rw[he];exact BD dF
 refine bF (fun h=>?_) (fun h=>?_)
 have xr:w.cC=0:=by omega
 have iX:w.iJ eb={w with bj:=192}->af (aw (ai bp 0) H) fun T7 T8=>
   ad (pG T7) fun T9=>ad (bG 45 T9) fun t46=>af (bx 1 t46 (.int .i64 192) T8) fun Ua Ub=>aa (.tuple [].toArray) Ub:=by
  intro he;exact aY hO _ ql (v:=ai B.c 0) rfl (aV (dy 192 w B H S [] (by grind) .fC aX hO he))
 cases eb with
 | hF a=>
  have aU:[v]=[.iface 313 (agg [int a])]:=aU;injection aU with aU _
  subst aU;exact ag (aAg _) (ag (show _=some (Value.bool false)from rfl) (dP rfl (iX (by unfold bA.iJ;simp_all))))
 | body a bs=>
  obtain⟨ej,aU,_⟩:=aU;injection aU with aU _
  subst aU;exact ag (ahp _) (ag (show _=some (Value.bool false)from rfl) (dP rfl (iX (by unfold bA.iJ;simp_all))))
 | dy=>
  have aU:[v]=[.iface 320 (agg [])]:=aU;injection aU with aU _
  subst aU;exact ag (ahq _) (ag (show _=some (Value.bool false)from rfl) (dP rfl (iX (by unfold bA.iJ;simp_all))))
 | mN b5 aK=>
  obtain⟨aZ,aU,aB,ok⟩:=aU;injection aU with aU _
  subst aU;refine ag (aho _) (ag (show _=some (Value.bool true)from rfl) (eT rfl (aY hO _ ql (v:=ai B.c 0) rfl (aY hO _ ql (v:=ai B.c 0) rfl (ag (ahr _) ?_)))));have ez:=hO;refine aAa aX ok aB hO ?_;intro cJ dG b6 Dz hO;refine⟨ho ez _ ql hO _ ql rfl,?_⟩;refine aV ?_;rw[<- b6.c];exact dy (w.sc aK) (w.BE aK) dG cJ S [] (by simp_all) b6 Dz hO (by unfold bA.iJ;rw[if_pos xr];exact w.az8 aK)
 have xr:¬w.cC=0:=by omega
 cases eb with
 | body a bs=>
  obtain⟨ej,aU,kn,vl⟩:=aU;injection aU with aU _
  subst aU;obtain⟨cU,fo,dg,pM⟩:=kn.lk;refine ag (aAj _) (ag (show _=some (agg [int a,ej])from rfl) (ag (show _=some (Value.bool true)from rfl) ?_));rw[Nu];refine dH hO ?_;intro c1 H hO;refine fT hO (_+0) (az rfl) rfl rfl (by rw[pM];rfl) ?_;intro H hO
  replace hO:=Nr hO.cD
  replace hO:ke H S ((F++[(bp,⟨[ai B.c 0],true⟩)])++[(c1,⟨[int a,ej],true⟩)]) w B:=hO
  refine eT rfl (aY hO _ h2 (v:=ai B.c 0) rfl (aY hO _ h2 (v:=ai B.c 0) rfl (gh hO (S.length+((F++[(bp,(⟨[ai B.c 0],true⟩:ax))]).length+0)) (aL (aL (az (az rfl)))) rfl (by omega) ?_)));have ez:=hO;refine aAf aX kn vl hO ?_;intro cJ dG X b6 Dz hO;refine⟨ho ez _ h2 hO _ h2 rfl,?_⟩;refine aV ?_;rw[<- b6.c];exact dy (w.vZ a bs) (w.zK a bs) dG cJ (S++X) X rfl b6 Dz (BD hO) (by unfold bA.iJ;rw[if_neg xr];exact w.aAb a bs)
 | hF a=>
  have aU:[v]=[.iface 313 (agg [int a])]:=aU;injection aU with aU _
  subst aU;refine ag (aAh _) (ag (show _=some (agg (df P 327))from rfl) (ag (show _=some (Value.bool false)from rfl) ?_));rw[Nu];refine dH hO ?_;intro c1 H hO;refine fT hO (_+0) (az rfl) rfl rfl rfl ?_;intro H hO;have hO:=hO.cD.left;exact dP rfl (ag (aAl _) (ag (show _=some (Value.bool false)from rfl) (dP rfl (aY hO _ ql (v:=ai B.c 0) rfl (aV (dy 192 w B H S [] (by simp_all) .fC aX hO (by unfold bA.iJ;simp_all)))))))
 | mN b5 aK=>
  obtain⟨aZ,aU,aB,ok⟩:=aU;injection aU with aU _
  subst aU;refine ag (aAi _) (ag (show _=some (agg (df P 327))from rfl) (ag (show _=some (Value.bool false)from rfl) ?_));rw[Nu];refine dH hO ?_;intro c1 H hO;refine fT hO (_+0) (az rfl) rfl rfl rfl ?_;intro H hO;have hO:=hO.cD.left;exact dP rfl (ag (aAm _) (ag (show _=some (Value.bool false)from rfl) (dP rfl (aY hO _ ql (v:=ai B.c 0) rfl (aV (dy 192 w B H S [] (by simp_all) .fC aX hO (by unfold bA.iJ;simp_all)))))))
 | dy=>
  have aU:[v]=[.iface 320 (agg [])]:=aU;injection aU with aU _
  subst aU;refine ag (aAk _) (ag (show _=some (agg (df P 327))from rfl) (ag (show _=some (Value.bool false)from rfl) ?_));rw[Nu];refine dH hO ?_;intro c1 H hO;refine fT hO (_+0) (az rfl) rfl rfl rfl ?_;intro H hO;have hO:=hO.cD.left;refine dP rfl (ag (aAn _) (ag (show _=some (Value.bool true)from rfl) (eT rfl (ag (aAo _) (aY hO _ ql (v:=ai B.c 0) rfl (aV (kd hO 3 rfl (T2 aO) (aY hO _ ql (v:=ai B.c 0) rfl (aV (ag b7 (kd hO 3 rfl (azQ aO) (bW aX.sv.bO (ag fr (bF (fun h1=>?_) (fun h1=>?_)))))))))))))));exact aY hO _ ql (v:=ai B.c 0) rfl (aV (dy 192 w B H S [] (by simp_all) .fC aX hO (by unfold bA.iJ;simp_all)));refine aY hO _ ql (v:=ai B.c 0) rfl (aV (vX hO 3 (o:=0+44) rfl rfl (by simp_all[jP.jv,vW]) (Nq aO 3) ?_));intro H hO;have he:w.iJ .dy={w with cC:=3}:=by unfold bA.iJ;grind
  rw[he]at hU;exact hU H B .fC ⟨aX.q,aX.aS,aX.sv,aX.fy,aX.qu,aX.s,aX.m,aX.own,aX.ep,aX.wr⟩ (BD hO)
theorem qt.tail{R:gz}{l:List ib}(h:qt S R (eb::l)):∃a aP,R.aP=[a]::aP/\xk S eb [a]/\Al (xk S) l aP:=by
 have bn:=h.oX;generalize qP:R.aP=alA at bn;cases bn with
 | cons h1 h2=>
  rename_i b m;have:b.length=1:=h.nx.Ds b (by simp_all)
  grind[length_eq_one_iff]
theorem aAr(h:aj H (((S++F)++jz)++b9)):aj H ((S++F)++(jz++b9)):=by rw[<- append_assoc];exact h
theorem aAs(aX:ks S w B)(fc:0<=w.aS.cT)(hm:w.m.gB 1000000)(hO:ke H S F w B)(ah:∀ab dG X,B.et dG->ks (S++X) w.step.2 dG->ke ab (S++X) F w.step.2 dG->aa (.bool w.step.1) ab):ay P 66 [ai B.c 0] H aa:=by
 apply ary;unfold abh;have aO:=aX.aS.dh;have hU:∀ab dG,B.et dG->ks S w.step.2 dG->ke ab S F w.step.2 dG->aa (.bool w.step.1) ab:=fun ab dG h1 h2 h3=>ah ab dG [] h1 h2.app (by rw[append_nil];exact h3)
 refine e3 (fun aA ab=>aA=[ai B.c 0,.bool (decide (w.bj≠0\/w.cC=4))]/\ab=H) ?_ ?_;refine aV (kd hO 3 rfl (Np aO) (ag ij (bF (fun h=>?_) (fun h=>?_))));exact ag (gA h) (⟨by simp[h],rfl⟩);refine aV (kd hO 3 rfl (IX aO) (ag e2 (ag (gP h) (⟨?_,rfl⟩))));rw[decide_eq_decide.2 (show((w.cC:Int)=4)↔(w.bj≠0\/w.cC=4)from⟨fun h1=>.inr (by omega),fun h1=>by omega⟩)];rintro aA ab ⟨rfl,rfl⟩
 try simp only[cj,ck]
 unfold bA.step at ah hU;refine bF (fun h=>?_) (fun h=>?_);rw[if_pos h]at hU;exact hU _ B .fC aX hO;rw[if_neg h]at hU ah;refine aV (kd hO 3 rfl (IX aO) (ag e2 (bF (fun h1=>?_) (fun h1=>?_))));rw[if_pos (by omega)]at hU;exact azY aX hm hO hU;rw[if_neg (by omega)]at hU ah;refine aV (kd hO 3 rfl (IX aO) (ag e2 (bF (fun h2=>?_) (fun h2=>?_))));rw[if_pos (by omega)]at hU;exact az1 aX fc hm hO hU;rw[if_neg (by omega)]at hU ah;refine aV (kd hO 3 rfl (T3 aO) (bW aX.fy.bO (ag kS ?_)));cases nR:w.fy with
 | cons x xs=>rw[nR]at hU;exact eT (by simp) (az6 aX nR hm hO hU)
 | nil=>
  rw[nR]at hU ah;refine dP (by simp) (aV (kd hO 3 rfl (v:=ai B.A.r 0) rfl ?_));have bY:=aX.q;refine agO (ae:=S++F) (i:=1) (j:=0) (aAr hO) rfl rfl (by decide) bY.nx ?_ ?_;intro he;have Wo:w.q=[]:=by
   have:=bY.len
   grind
  rw[Wo]at hU;exact ag kT (ag kU (ag ix (eT rfl (hU _ B .fC aX hO))));intro a bj he cJ bE zq dF;cases hwq:w.q with
  | nil=>rw[hwq]at bY;have:=bY.len;rw[he]at this;simp at this
  | cons eb l=>
   rw[hwq]at ah bY;obtain⟨cH,TP,y7,qY,lo⟩:=bY.tail;rw[he]at y7;injection y7 with a7 bt
   injection a7 with a7 _
   subst a7 bt;refine ag kT (ag kU (ag ix (dP rfl ?_)))
   replace dF:ke cJ S F {w with q:=l} {B with A:=B.A.ef bE bj}:=by show aj cJ (((S++F)++Ns (B.A.ef bE bj) B.l _ B.c _)++dJ B.L w.m);rw[append_assoc];exact dF
   have Dz:ks S {w with q:=l} {B with A:=B.A.ef bE bj}:=⟨⟨zq,lo⟩,aX.aS,aX.sv,aX.fy,aX.qu,aX.s,aX.m,aX.own,aX.ep,aX.wr⟩;refine aAq (B:={B with A:=B.A.ef bE bj}) Dz qY dF ?_;intro jr aAt X b6 ahs l0;rw[nR]at ahs l0;exact ah jr aAt X ⟨b6.r,b6.q,b6.n,b6.l,b6.c,b6.L⟩ ahs l0
end J
namespace J
open Go Go.Ab
variable[cu:b0]
variable{H:au}{ae b9:List (Nat×ax)}{aa:VH}{v:Value}{aq:List Value}{p l:Nat}{a jy i:Int}{s:fF}
def fF.gS(s:fF)(jy i:Int):Nat×Int×fF:=if i<0\/2<=i\/jy<1 then(0,101,s)else if s.mJ≠0 then(0,161,s)else(s.fz+1,0,{s with jy:=jy,cQ:=i,mJ:=s.fz+1,fz:=s.fz+1})
theorem aAu(a b:Int)(n:Nat):(dq P 189).f [(0,int a),(1,int b),(2,bT .u64 n)]=some (agg [int a,int b,bT .u64 n]):=by rfl
theorem aht(hg:s.fz<1000)(hO:aj H ((ae++[(l,⟨fs s p,true⟩)])++b9))(ah:∀ab,aj ab ((ae++[(l,⟨fs (s.gS jy i).2.2 p,true⟩)])++b9)->aa (.tuple [bT .u64 (s.gS jy i).1,int (s.gS jy i).2.1].toArray) ab):ay P 32 [ai l 0,int jy,int i] H aa:=by
 apply aq4;unfold aaO;unfold fF.gS at ah;refine e3 (fun aA ab=>aA=[ai l 0,int jy,int i,.bool (decide (i<0\/2<=i\/jy<1))]/\ab=H) ?_ ?_;refine ag fr (bF (fun h=>?_) (fun h=>?_));exact ag (gA h) (ag j9 (⟨by simp[h],rfl⟩));refine ag um (ag (gP h) (bF (fun h1=>?_) (fun h1=>?_)));exact ag (gA h1) (⟨by grind,rfl⟩);refine ag fr (ag (gP h1) (⟨?_,rfl⟩))
 grind
 rintro aA ab ⟨rfl,rfl⟩
 try simp only[cj,ck]
 refine bF (fun h=>?_) (fun h=>?_);rw[if_pos h]at ah;exact ah _ hO;rw[if_neg h]at ah;refine aV (iH hO (ae.length+0) (aL (az rfl)) (aq:=[int s.jy,int s.cQ,bT .u64 s.mJ]) rfl rfl (by omega) (ag8 hO ?_));intro H hO;refine bF (fun h1=>?_) (fun h1=>?_);rw[if_pos h1]at ah;exact ah H hO;rw[if_neg h1]at ah;refine aV (kd hO 0 rfl (v:=bT .u64 s.fz) rfl (ag (v:=bT .u64 (s.fz+1)) ?_ ?_));rw[show(.int .u64 1:Value)=bT .u64 1 from rfl,sH rfl];show some (bT .u64 ((s.fz+1)%18446744073709551616))=_
 grind
 refine aV (vX hO 0 (o:=0+6) rfl rfl (show 6<7 by omega) rfl ?_);intro H hO;refine aV (kd hO 0 rfl (v:=bT .u64 (s.fz+1)) rfl (ag (aAu _ _ _) (aV (pR hO (ae.length+0) (aL (az rfl)) rfl (show 0+0+3<=7 by omega) rfl ?_))));intro H hO;rw[set_append_left _ _ (by simp),Go.Ab.cD]at hO;exact aV (kd hO 0 rfl (v:=bT .u64 (s.fz+1)) rfl (ah H hO))
theorem aAv(cO:Nat)(a b:Int):(dq P 191).f [(1,ai cO 0),(2,agg [int a,int b])]=some (agg (fs ⟨0,0,0,0,a,b⟩ cO)):=by rfl
theorem aAw{cO:Nat}{a b:Int}(hO:aj H ae)(ah:∀ab l,aj ab (ae++[(l,⟨fs ⟨0,0,0,0,a,b⟩ cO,true⟩)])->aa (ai l 0) ab):ay P 59 [ai cO 0,agg [int a,int b]] H aa:=by apply arq;unfold aba;rw[sa];refine dH hO ?_;intro eQ H hO;refine gh hO (ae.length+0) (az rfl) (n:=2) rfl (by omega) (ag (aAv _ _ _) ?_);rw[sa];refine dH hO ?_;intro l H hO;refine ah H l (hO.sub ?_);exact List.Sublist.append (sublist_append_left ae _) (List.Sublist.refl _)
theorem aAx(l r:Nat)(t:Nat)(i:Int):(dq P 259).f [(0,ai l 0),(1,bT .u64 t),(2,int i),(3,ai r 0)]=some (agg (i7 l t i r eY bu 0 bu 0 0 0)):=by rfl
theorem aAy{r t:Nat}(hO:aj H ae)(ah:∀ab c,aj ab (ae++[(c,⟨i7 l t i r eY bu 0 bu 0 0 0,true⟩)])->aa (ai c 0) ab):ay P 82 [ai l 0,bT .u64 t,int i,ai r 0] H aa:=by apply arP;unfold abA;refine ag (aAx _ _ _ _) ?_;rw[sa];refine dH hO ?_;intro c H hO;exact ah H c hO
def gx(ahu:Nat)(cQ:Int):bA:=⟨⟨5,cQ,1,1,0,1⟩,1,cQ,[],eY,0,[],0,0,0,⟨bK.cY 60 100,mI 0 [ahu,ahu],0,[]⟩⟩
theorem aAz(p:Nat):(ar P .eql 36 true).f (ai p 0) (.pointer none)=some (.bool false):=by rfl
theorem aAA(p:Nat):(ar P .eql 38 true).f (ai p 0) (.pointer none)=some (.bool false):=by rfl
end J
namespace J
open Go Go.Ab
variable[cu:b0]
variable{H:au}{ae:List (Nat×ax)}{aa:VH}{v w x aZ:Value}{b:List Int}{i p q n k f:Nat}{aq:List Value}{cF:List UInt8}{m:da}{cV:Nat}{aF:Int}
theorem _root_.Go.Ab.iV.Nc{size:Nat}(h:iV size v n aq):eL v=true:=by rcases h with⟨rfl,_⟩|⟨p,rfl|rfl,_⟩<;>rfl
def Gd(b:List Int)(C i:Nat):List Int:=gC ((b.drop (i*C)).take C)
def pt(cF:List UInt8)(cV:Nat)(aF:Int)(b:List Int)(y:Nat):da:=⟨cF,cV,b.length,aF,gC b,(List.range y).map (Gd b aF.toNat)⟩
def lN(cF:List UInt8)(cV:Nat)(aF:Int)(b:List Int):da:=pt cF cV aF b (l2 b.length aF).toNat
theorem BF{y:Nat}:(pt cF cV aF b y).aN.length=y:=by simp[pt]
theorem Nv{y:Nat}(hv:cV<18446744073709551616)(aB:-9223372036854775808<=aF/\aF<=9223372036854775807)(aD:b.length<=1000000)(bJ:cF.length<=10000)(ba:y<=10000):(pt cF cV aF b y).b4:=by refine⟨qn,F1,?_,?_,hv,⟨by show-9223372036854775808<=((b.length:Nat):Int);omega,by show((b.length:Nat):Int)<=_;omega⟩,aB,by grind[BF],bJ⟩;intro x ao;obtain⟨i,_,rfl⟩:=mem_map.1 ao;rfl;intro x ao;obtain⟨i,_,rfl⟩:=mem_map.1 ao;exact F1
theorem aAB(cF:List UInt8)(cV:Nat)(cT aF:Int)(cn:List Int)(aO:cn.length=32):(dq P 55).f [(0,bS cF),(1,bT .u64 cV),(2,int cT),(3,int aF),(4,agg (bd cn))]=some (agg (bN ⟨cF,cV,cT,aF,cn,[]⟩ bu)):=by
 match cn,aO with
 | [a0,cU,cR,a3,a4,a5,kp,ln,mR,a9,SV,SW,SX,SY,SZ,S0,C1,Ta,Tb,Tc,a20,a21,Td,Te,Tf,Tg,Th,Ti,Tj,Tk,Tl,Tm],_=>rfl
theorem ahv:(dq P 55).f []=some (agg (bN eY bu)):=by rfl
theorem aAC{m a:da}(h1:m.cF=a.cF)(h2:m.cV=a.cV)(h3:m.cT=a.cT)(aG:m.aF=a.aF)(a6:m.cn=a.cn):bN m v=bN a v:=by simp_all[bN]
theorem aAD{size n:Nat}(h:iV size v n aq):fY v=true:=by rcases h with⟨rfl,_⟩|⟨p,rfl|rfl,_⟩<;>rfl
theorem aAE(y:Nat):(pt cF cV aF b (y+1)).aN=(pt cF cV aF b y).aN++[Gd b aF.toNat y]:=by simp[pt,range_succ]
theorem aAF(hO:aj H ae)(hv:RdB ae v b)(ak:cE b)(aD:b.length<=1000000)(IC:cV<18446744073709551616)(jE:-9223372036854775808<=aF/\aF<=9223372036854775807)(bJ:cF.length<=10000)
  (hU:¬eG (lN cF cV aF b)->∀ab,aj ab ae->aa (.tuple [agg (bN eY bu),int 131].toArray) ab)
  (tu:eG (lN cF cV aF b)->∀ab aZ,aj ab (ae++bQ aZ (fV (lN cF cV aF b).aN))->e8 (bQ aZ (fV (lN cF cV aF b).aN)) aZ (lN cF cV aF b).aN->aa (.tuple [agg (bN (lN cF cV aF b) aZ),int 0].toArray) ab):
  ay P 69 [bS cF,bT .u64 cV,int aF,v] H aa:=by
 apply arC;unfold abm;rw[yp];refine j3 hO.z ?_;intro kD H hO
 replace hO:aj H (ae++[(kD,⟨bN eY bu,true⟩)]):=hO
 refine bW hv.bO (Iu hO hv.app ak (by omega) ?_);intro H hO;refine ag (aAB _ _ _ _ _ qn) (j3 hO ?_);intro mr H hO;refine lr hO 1 rfl (by rfl) (eS qn) (nt rfl) ?_;intro H hO;refine bW hv.bO (afR (by omega) (by omega) ?_);have Ax:lN cF cV aF b=pt cF cV aF b (l2 b.length aF).toNat:=rfl;have EL:0<=l2 b.length aF:=SM;generalize Uc:l2 b.length aF=Q at*;obtain⟨N,rfl⟩:∃N:Nat,Q=N:=⟨Q.toNat,by omega⟩;rw[Int.toNat_natCast]at Ax;rw[Ax]at hU tu;refine ag kS (bF (fun F8=>?_) (fun F8=>?_));refine ag ahv (lr hO 0 rfl (by rfl) (by rfl) (by rfl) ?_);intro H hO;refine jN hO 0 rfl (by rfl) (by omega) (hU ?_ H hO.left);intro U;have:=U.2.2.2.2.2.2.2.2.2
 grind[BF]
 have nw:N<=64:=by omega
 have zH:N=0\/∃C:Nat,aF=C/\0<C/\(N-1)*C<=b.length/\b.length<=N*C/\0<N:=by
  unfold l2 at Uc;split at Uc;omega;right;rename_i dC;refine⟨aF.toNat,by omega,by omega,?_⟩;have a7:(((b.length:Nat):Int)-1)/aF=(((b.length-1)/aF.toNat:Nat):Int):=by grind
  rw[a7]at Uc;have h1:=div_mul_le_self (b.length-1) aF.toNat;have h2:=lt_div_mul_add (a:=b.length-1) (b:=aF.toNat) (by omega);have h3:N-1=(b.length-1)/aF.toNat:=by grind
  have aGi:0<N:=by omega
  have aG:N*aF.toNat=(b.length-1)/aF.toNat*aF.toNat+aF.toNat:=by grind[Int.ofNat_inj]
  grind
 have ahw:∀y,y<=N->(pt cF cV aF b y).b4:=fun y ba=>Nv IC jE aD bJ (by omega)
 have Ud:∀(y:Nat) (z:Value),bN (pt cF cV aF b y) z=bN (pt cF cV aF b 0) z:=fun y z=>aAC rfl rfl rfl rfl rfl
 have aO:=(ahw 0 (zero_le _)).dh
 replace hO:aj H ((ae++[(kD,⟨bN eY bu,true⟩),(mr,⟨bN (pt cF cV aF b 0) bu,true⟩)])++bQ bu (fV (pt cF cV aF b 0).aN)):=hO.z
 refine arB (fun k aA ab=>∃(y:Nat) (aZ:Value),y<=N/\k=N-y/\aA=[int aF,v,ai kD 0,int 0,ai mr 0,int N,int y]/\aj ab ((ae++[(kD,⟨bN eY bu,true⟩),(mr,⟨bN (pt cF cV aF b 0) aZ,true⟩)])++bQ aZ (fV (pt cF cV aF b y).aN))/\iV 32 aZ y (fV (pt cF cV aF b y).aN)) _ _ ?_ N _ _ ⟨0,bu,by omega,by omega,rfl,hO,.nil⟩;rintro k aA H ⟨y,aZ,ba,rfl,rfl,hO,Bv⟩;unfold abl
 try simp only[cj,ck]
 refine ag fr (bF (fun dw=>?_) (fun dw=>?_));have ba:y<N:=by omega
 obtain⟨C,rfl,ka,wF,qF,aGj⟩:=zH.resolve_left (by omega);have aGk:y*C<=(N-1)*C:=mul_le_mul_right C (by omega);have aAG:(y+1)*C=y*C+C:=succ_mul y C;refine ag (TG (by omega) (by omega)) (bW hv.bO (e3 (fun aA ab=>aA=[int C,v,ai kD 0,int 0,ai mr 0,int N,int y,int ((y*C:Nat):Int),int ((min (y*C+C) b.length:Nat):Int)]/\H=ab) ?_ ?_));refine ag (ob (by omega) (by omega)) (ag fr (bF (fun h=>?_) (fun h=>?_)));have a6:y*C+C<=(N-1)*C:=by rw[<- aAG];exact mul_le_mul_right C (by omega)
 refine ag (jg (by omega) (by omega)) (⟨?_,rfl⟩);rw[show min (y*C+C) b.length=y*C+C by omega,Int.natCast_add,Int.natCast_mul];have bq:y=N-1:=by omega
 have a6:N*C=y*C+C:=by grind
 refine⟨?_,rfl⟩
 simp_all
 rintro aA ab ⟨rfl,rfl⟩
 try simp only[cj,ck]
 refine ag b7 (aY hO (ae.length+1) (aL (az rfl)) (sP aO) ?_);obtain⟨w,aM,wH⟩:=Tt hv (i:=y*C) (t:=min (y*C+C) b.length) (by omega) (by omega);refine ag aM ?_;have ez:=hO;refine Iu hO (wH _ hv).app.app (cE.drop (cE.take ak)) (by grind) ?_;intro H hO;refine⟨ho ez (ae.length+1) (aL (az rfl)) hO (ae.length+1) (aL (az rfl)) (Bo (aAD Bv)),?_⟩;have afw:gC ((b.take (min (y*C+C) b.length)).drop (y*C))=Gd b (C:Int).toNat y:=by
  unfold Gd;rw[Int.toNat_natCast]
  congr 1
  rw[drop_take];by_cases bU:y*C+C<=b.length
  simp_all
  grind[length_drop]
 rw[afw];have sr:(Gd b (C:Int).toNat y).length=32:=qn;refine ik hO (af9 _ sr _) ?_;intro q H hO;refine FO hO Bv (by rfl) (by omega) (mn _) (by omega) (by omega) ?_;intro oW H hO Bw;rw[<- Tn,<- aAE]at hO Bw;refine ag b7 (fR hO (ae.length+1) (aL (az rfl)) Bw.Nc (by grind[eS]) (ag0 aO) ?_);intro H hO;rw[set_append_left _ _ (by simp),Go.Ab.cD]at hO;exact ag (yq (b:=1) (by omega)) (⟨N-(y+1),by omega,y+1,oW,by omega,rfl,rfl,hO,Bw⟩);have mq:y=N:=by omega
 subst mq;refine k6 rfl ?_
 try simp only[cj,ck]
 have Dp:=ahw y (Nat.le_refl _);have mj:e8 (bQ aZ (fV (pt cF cV aF b y).aN)) aZ (pt cF cV aF b y).aN:=aga (by rw[BF];exact Bv);rw[<- Ud y aZ]at hO;refine gh hO (ae.length+1) (aL (az rfl)) (eS Dp.dh) (by omega) (SN Dp mj.app' hO ?_);intro H hO;refine ag ix (qj (fun U=>?_) (fun U=>?_));have U:¬eG (pt cF cV aF b y):=by simp_all
 refine ag ahv (fT hO (ae.length+0) (aL (az rfl)) (by rfl) (by rfl) (by rfl) ?_);intro H hO;rw[set_append_left _ _ (by simp),Go.Ab.cD]at hO;exact gh hO (ae.length+0) (aL (az rfl)) (by rfl) (by omega) (hU U H hO.left.left);have U:eG (pt cF cV aF b y):=by simpa using U
 refine gh hO (ae.length+1) (aL (az rfl)) (eS Dp.dh) (by omega) (fT hO (ae.length+0) (aL (az rfl)) (by rfl) (eS Dp.dh) (nt mj.fh) ?_);intro H hO;rw[set_append_left _ _ (by simp),Go.Ab.cD]at hO;exact gh hO (ae.length+0) (aL (az rfl)) (eS Dp.dh) (by omega) (tu U H aZ (aj.ca hO) mj)
end J
namespace J
open Go Go.Ab
variable[cu:b0]
variable{d eM:bK}{m:br}{s:List Int}{l:List (List Int)}{i:Nat}
def ou(d:bK)(i:Nat):List Int:=(d.cells.getD i iW).vI
def eb(d:bK)(i:Nat):List Int:=(d.cells.getD i iW).eR
def wr(d:bK)(i:Nat):Int:=(d.cells.getD i iW).ji
def kQ(l:List (Nat×List Int)):List Nat:=l.map (·.1)
theorem aAH{l:List (Nat×List Int)}{x:Nat×List Int}(h:x∈l):x.1∈kQ l:=mem_map.2 ⟨x,h,rfl⟩
theorem ahx{a b:List (Nat×List Int)}:kQ (a++b)=kQ a++kQ b:=map_append
structure DA (d:bK):Prop where
 tk:(kQ d.done).Nodup
 lt:∀x∈d.done,x.1<d.cells.length
 p:∀i w,(i,w)∈d.done->eb d i=w
 n:∀i,i∉kQ d.done->eb d i=ou d i
theorem Ue{l:List Cell}{i j:Nat}{c:Cell}(h:i<l.length):(l.set i c).getD j iW=if i=j then c else l.getD j iW:=by grind
structure et (d eM:bK):Prop where
 c:eM.cells=d.cells
 w:eM.done=d.done
 m:eM.iz=d.iz
theorem et.ou(h:et d eM):ou eM i=ou d i:=by unfold J.ou;rw[h.c]
theorem et.eb(h:et d eM):eb eM i=eb d i:=by unfold J.eb;rw[h.c]
theorem et.wr(h:et d eM):wr eM i=wr d i:=by unfold J.wr;rw[h.c]
theorem et.kA(h:et d eM)(aM:DA d):DA eM:=⟨by rw[h.w];exact aM.tk,by rw[h.w,h.c];exact aM.lt,by rw[h.w];intro i w an;rw[h.eb];exact aM.p i w an,by rw[h.w];intro i an;rw[h.eb,h.ou];exact aM.n i an⟩
theorem ahy:et d d.step:=⟨rfl,rfl,rfl⟩
theorem Uf(h:d.gm=false)(ak:d.gK≠0):d.step.gm=false:=by
 show(d.gm||decide (d.gK=0))=false
 simp_all
theorem ahz(h:d.step.gm=true)(aO:d.gm=false):d.gK=0:=by
 have h:(d.gm||decide (d.gK=0))=true:=h
 simp_all
theorem Nw(h:d.gK<0):d.step.gK=d.gK:=if_neg (by omega)
structure BG (d:bK) (i:Nat) (s:List Int) (eM:bK):Prop where
 len:eM.cells.length=d.cells.length
 m:eM.iz=d.iz
 w:eM.done=d.done++[(i,s)]
 k:∀j,ou eM j=ou d j
 s:∀j,eb eM j=if i=j then s else eb d j
 jZ:eM.gm=false
 k9:d.gK<0->eM.gK=d.gK
theorem BG.kA(h:BG d i s eM)(aM:DA d)(an:i<d.cells.length)(aU:i∉kQ d.done):DA eM:=by
 refine⟨?_,?_,?_,?_⟩
 ·rw[h.w,ahx,nodup_append];refine⟨aM.tk,by simp[kQ],fun a bn b ak=>?_⟩
  grind[kQ]
 ·rw[h.w,h.len];intro x ao;rcases mem_append.1 ao with ao|ao
  ·exact aM.lt x ao
  simp_all
 ·rw[h.w];intro j w bm;rw[h.s];rcases mem_append.1 bm with bm|bm
  ·rw[if_neg (fun e:i=j=>aU (by rw[e];exact aAH bm))];exact aM.p j w bm
  simp_all
 ·rw[h.w];intro j bm;rw[ahx,mem_append,not_or]at bm;rw[h.s,h.k,if_neg (fun e=>bm.2 (by simp_all[kQ]))];exact aM.n j bm.1
theorem ahA(an:i<d.cells.length)(bf:d.gm=false)(s:List Int){d0:bK}(aJ:∀j,ou d j=ou d0 j)(h1:∀j,eb d j=eb d0 j)(h2:d.done=d0.done)(h3:d.iz=d0.iz)(aG:d.cells.length=d0.cells.length)(a6:d0.gK<0->d.gK=d0.gK):BG d0 i s (d.put (i:Int) s):=by
 have aO:d.cell (i:Int)=d.cells.getD i iW:=by rfl
 refine⟨?_,h3,?_,fun j=>?_,fun j=>?_,bf,a6⟩
 ·show(d.cells.set _ _).length=_;simp_all
 ·show d.done++[((i:Int).toNat,s)]=_;simp_all
 ·rw[<- aJ];unfold ou;show((d.cells.set (i:Int).toNat _).getD j iW).vI=_
  grind
 ·rw[<- h1];unfold eb;show((d.cells.set (i:Int).toNat _).getD j iW).eR=_
  grind
theorem Nx(an:i<d.cells.length):d.hC (i:Int):=⟨by omega,by omega⟩
structure el (d eM:bK):Prop where
 s:et d eM
 cw:eM.gm=true
 b:0<=d.gK
theorem aAI(an:i<d.cells.length)(bf:d.gm=false)(aM:wr d i<d.iz):
  ((d.eF i).2=62/\el d (d.eF i).1)\/((d.eF i).2=0/\BG d i jG (d.eF i).1/\∀j,wr (d.eF i).1 j=if i=j then wr d i+1 else wr d j):=by
 have aB:d.cell (i:Int)=d.cells.getD i iW:=by rfl
 unfold bK.eF;rw[if_neg (fun h=>h (Nx an)),if_neg (by grind),if_neg (by simp_all[wr])];by_cases h:d.step.gm=true;rw[if_pos h];have ak:=ahz h bf;exact .inl ⟨rfl,ahy,h,by omega⟩;rw[if_neg h];have h:=Bool.eq_false_iff.2 h;refine .inr ⟨rfl,?_,fun j=>?_⟩;have aD:(d.step.iE (i:Int) {d.cell i with ji:=(d.cell i).ji+1}).cells.length=d.cells.length:=by show(d.cells.set _ _).length=_;simp_all
 refine ahA (d:=d.step.iE (i:Int) {d.cell i with ji:=(d.cell i).ji+1}) (d0:=d) (by omega) h jG (fun j=>?_) (fun j=>?_) rfl rfl aD (fun ak=>Nw ak);unfold ou;show((d.cells.set (i:Int).toNat _).getD j iW).vI=_
 grind
 unfold eb;show((d.cells.set (i:Int).toNat _).getD j iW).eR=_
 grind
 unfold wr;show(((d.cells.set (i:Int).toNat _).set (i:Int).toNat _).getD j iW).ji=_;rw[Int.toNat_natCast,Ue (by simp_all)];by_cases e:i=j;subst e;rw[if_pos rfl,if_pos rfl];show(((d.cells.set (i:Int).toNat _).getD (i:Int).toNat iW)).ji=_
 simp_all
 simp_all
theorem aAJ(an:i<d.cells.length)(bf:d.gm=false)(ak:eb d i=jG):
  ((d.fE i s).2=62/\el d (d.fE i s).1)\/((d.fE i s).2=0/\BG d i s (d.fE i s).1/\∀j,wr (d.fE i s).1 j=wr d j):=by
 have aB:d.cell (i:Int)=d.cells.getD i iW:=by rfl
 unfold bK.fE;rw[if_neg (fun h=>h (Nx an)),if_neg (by grind),if_neg (by simp_all[eb])];by_cases h:d.step.gm=true;rw[if_pos h];have ak:=ahz h bf;exact .inl ⟨rfl,ahy,h,by omega⟩;rw[if_neg h];have h:=Bool.eq_false_iff.2 h;refine .inr ⟨rfl,?_,fun j=>?_⟩;exact ahA (d:=d.step) (d0:=d) an h s (fun j=>rfl) (fun j=>rfl) rfl rfl rfl (fun ak=>Nw ak);unfold wr;show((d.cells.set (i:Int).toNat _).getD j iW).ji=_;rw[Int.toNat_natCast,Ue an];by_cases e:i=j;subst e;rw[if_pos rfl];rfl
 simp_all
structure ahB (d eM:bK):Prop where
 len:eM.cells.length=d.cells.length
 m:eM.iz=d.iz
 w:eM.done=[]
 k:∀j,ou eM j=eb d j
 s:∀j,eb eM j=eb d j
 wr:∀j,wr eM j=wr d j
 jZ:eM.gm=false
 k9:d.gK<0->eM.gK=d.gK
theorem ahB.kA(h:ahB d eM):DA eM:=⟨by rw[h.w];simp[kQ],(by rw[h.w];simp_all),(by grind[w]),fun i _=>by rw[h.s,h.k]⟩
def aAK(old cY aAL:List Int):Prop:=∃n,n<=64/\aAL=cY.take n++old.drop n
structure ahC (d eM:bK):Prop where
 len:eM.cells.length=d.cells.length
 m:eM.iz=d.iz
 w:eM.done=[]
 s:∀j,eb eM j=ou eM j
 n:∀j,j∉kQ d.done->ou eM j=ou d j
 t:∀j w,(j,w)∈d.done->aAK (ou d j) w (ou eM j)
 wr:∀j,wr eM j=wr d j
 jZ:eM.gm=false
 k9:eM.gK=-1
theorem ahC.kA(h:ahC d eM):DA eM:=⟨by rw[h.w];simp[kQ],(by rw[h.w];simp_all),(by grind[w]),fun i _=>h.s i⟩
end J
namespace J
open Go Go.Ab
variable[cu:b0]
variable{d eM d0:bK}{m:br}{s:List Int}{l:List (List Int)}{j:Nat}{A B:Nat}{b:Int}
def off(A:Nat)(b:Int):Nat:=if b=0 then 0 else A
def mw(A B:Nat)(b:Int):Nat:=if b=0 then A else B
structure jY (m:br) (A B:Nat):Prop where
 cM:∃r,m.iA=(0,A)::(A,B)::r
 Ge:A+B<=m.d.cells.length
abbrev l4(b:Int):Prop:=b=0\/b=1
theorem zL(h:jY m A B)(ak:l4 b):m.hC b/\m.r5 b=(off A b,mw A B b):=by
 obtain⟨r,e⟩:=h.cM;unfold br.hC br.r5;rw[e];rcases ak with rfl|rfl
 exact⟨⟨by omega,by grind⟩,rfl⟩;exact⟨⟨by omega,by grind⟩,rfl⟩
theorem DB(h:jY m A B)(ak:l4 b):m.size b=mw A B b:=by unfold br.size;rw[if_pos (zL h ak).1,(zL h ak).2]
theorem DC(h:jY m A B)(ak:l4 b){y:Nat}(ba:y<mw A B b):off A b+y<m.d.cells.length:=by
 have:=h.Ge
 grind[mw,off]
theorem DD(h:jY m A B)(ak:l4 b){y:Nat}(ba:y<mw A B b):m.gj b y=(((off A b+y:Nat):Int),0):=by unfold br.gj;rw[if_neg (fun h2=>h2 (zL h ak).1),(zL h ak).2,if_neg (by omega)];rfl
theorem ahD(bm:j<d.cells.length):(d.fU (j:Int)).1=eb d j:=by simp_all[bK.fU,Nx,bK.cell,eb]
theorem DE(h:jY m A B)(ak:l4 b){y:Nat}(ba:y<mw A B b):(m.fU b y).1=eb m.d (off A b+y):=by unfold br.fU;rw[DD h ak ba,if_neg (by simp)];exact ahD (DC h ak ba)
def cA(d:bK)(A B:Nat)(b:Int):List (List Int):=(List.range (mw A B b)).map fun y=>ou d (off A b+y)
def Gf(b:Int)(l:List Op):Prop:=∀o∈l,o.part=b
theorem ahE{o:Op}{e:Int}(bM:o.part=b)(h:Gf b m.bD):Gf b (m.oS o e).bD:=by
 unfold br.oS;split;intro x ao;rcases mem_append.1 ao with ao|ao
 exact h x ao
 simp_all
 exact h
structure Ug (d0 d:bK) (fm an:Nat):Prop where
 len:d.cells.length=d0.cells.length
 m:d.iz=d0.iz
 kA:DA d
 k:∀j,ou d j=ou d0 j
 hc:∀x∈d.done,fm<=x.1/\x.1<an/\x.2=jG
 dT:∀j,wr d j<=wr d0 j+1
 fb:∀j,j∉kQ d.done->wr d j<=wr d0 j
 k9:d0.gK<0->d.gK=d0.gK
theorem Ug.a1{fm an:Nat}(h:Ug d0 d fm an)(bM:el d eM):Ug d0 eM fm an:=by refine⟨by rw[bM.s.c,h.len],by rw[bM.s.m,h.m],bM.s.kA h.kA,fun j=>by rw[bM.s.ou,h.k],by rw[bM.s.w];exact h.hc,fun j=>by rw[bM.s.wr];exact h.dT j,fun j bm=>by rw[bM.s.wr];exact h.fb j (by rw[<- bM.s.w];exact bm),fun ak=>?_⟩;have:=bM.b;have:=h.k9 ak;omega
end J
