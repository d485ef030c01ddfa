/- texts of the pv, gd behind the oq -/
import Derived.Test.YtifflnhooaophaaGreatDoorUJ
set_option linter.unusedVariables false
set_option linter.unusedSimpArgs false
set_option linter.unusedSectionVars false
set_option maxHeartbeats 4000000
set_option maxRecDepth 100000
namespace J
open Go Go.Ab
variable[cu:b0]
variable{H:au}{Γ S F:List (Nat×az)}{aa:VH}{v:Value}{p o k n:Nat}{e bh a:Int}{m:bt}{L cv:lG}{aW:df}{w:bU}{B dn:jm}{x:List Int}{aj:List (List Int)}
theorem axw{l r ez cA wr dx:Nat}{dh bu:Int}{b9 hq:Value}(hv:fH b9=true)(af:fH hq=true):(iq l cA dh r aW b9 ez hq wr dx bu).all fH=true:=by
 show(true&&(true&&(true&&(true&&(b4 aW b9++[int ez,hq,int wr,int dx,int bu]).all fH))))=true;rw[List.all_append,zL hv];show(true&&(true&&(fH hq&&(true&&(true&&(true&&true))))))=true
 grind
theorem qv.sF{fM:List (List Int)}(h:qv S v fM):fH v=true:=by rcases h with⟨rfl,rfl⟩|⟨p,k,c,j,w,all,rfl,_⟩<;>rfl
theorem j2.sF(h:j2 S w B):(B.j0 w).all fH=true:=axw h.b9.sF h.fM.sF
theorem bt.axx(ok:m.b1){l0:Int}:(m.all l0).length=64*m.size l0:=bt.Ra ok _
theorem axy(bc:j2 S w B)(eU:0<=w.aW.c0)(aV:w.m.hR 1000000)(hO:jR H S F w B)(ag:∀ab dn,B.fg dn->j2 S w.mz dn->jR ab S F w.mz dn->aa (.tuple [].toArray) ab):wCall P 142 [ak B.c 0] H aa:=by
 apply ap2;unfold aag;have aJ:=bc.aW.dR;refine aY (jQ hO 3 rfl (v:=ak B.l 0) rfl (aY (jQ hO 3 rfl (v:=bS .u64 w.cA) rfl (awW bc.s bc.m.ok aV hO bc.own (B6 B w) ?_))));clear hO;intro H cv he hO hv;refine aY (SA aJ he hO ?_);clear hO;intro H hO
 replace hO:jR H S F w.lq (B.at cv):=hO
 have ir:j2 S w.lq (B.at cv):=bc.put (Su bc.m afk) hv;have Ht:B.fg (B.at cv):=jm.ha he;have pD:w.lq.aW=w.aW:=rfl;have iI:w.lq.s=w.s:=rfl;have xx:w.lq.dh=w.dh:=rfl;unfold bU.mz at ag;generalize w.lq=dF at*;rw[show B.c=(B.at cv).c from rfl];generalize B.at cv=nU at*;have qJ:=ir.aW.dR;refine aY (jQ hO 3 rfl (LQ qJ) (ai jh (bT (fun h=>?_) (fun h=>?_))))
 ·rw[if_pos h]at ag;exact ag H nU Ht ir hO
 rw[if_neg h]at ag;refine aY (jQ hO 3 rfl (v:=ak nU.l 0) rfl (aY (jQ hO 3 rfl (v:=int dF.dh) rfl (awS ir.m.ok hO (B6 nU dF) ?_))));clear hO;intro H axz fV hO LV;rw[iI,xx]at LV;have vf:=bt.axl (l0:=w.s.part w.dh) ir.m.b;have th:=bt.axx (l0:=w.s.part w.dh) ir.m.ok;have aCE:=bt.GY (part:=w.s.part w.dh) ir.m.ok;generalize dF.m.all (w.s.part w.dh)=b at*;refine gb (fun aG ab=>aG=[ak nU.c 0,.bool (decide ((b.length:Int)<w.aW.c0\/gB (b.take w.aW.c0.toNat)≠w.aW.cq))]/\jR ab S F dF nU) ?_ ?_
 ·refine cH LV.cG (aY (ai ed (jQ hO.left 3 rfl (show(nU.j0 dF)[0+4+2]?=some (int w.aW.c0) by rw[<- pD];rfl) (ai gj (bT (fun ad=>?_) (fun ad=>?_))))))
  ·exact ai (ju ad) (⟨by simp[ad],hO.left⟩)
  ·refine aY (ai ed (jQ hO.left 3 rfl (show(nU.j0 dF)[0+4+2]?=some (int w.aW.c0) by rw[<- pD];rfl) ?_));obtain⟨ev,bn,i1⟩:=BE LV.lR (n:=w.aW.c0.toNat) (by omega);rw[Int.toNat_of_nonneg eU]at bn;refine ai bn ?_;have oa:=(i1 _ LV.lR).jv (Γ:=(((S++F)++nU.fu dF)++dQ nU.L dF.m));obtain⟨a,k7,cC,rfl⟩:=oa.lC;refine ih hO (adj _ _ _ _) ?_;have pL:=hO;clear hO;intro q bw hO;have dJ:=hO;refine Q9 (j:=_+0) hO (aC rfl) oa.bo (fun x ao=>vf x (List.mem_of_mem_take ao)) (by rw[List.length_take];omega) ?_;clear hO;intro cD hO;refine aY (ai ed ?_);have aq:((((S++F)++nU.fu dF)++dQ nU.L dF.m)++b2 axz fV)[(S++F).length+3]?=some (nU.c,⟨nU.j0 dF,true⟩):=aS (aS (aC rfl));refine jM hO _ (aS aq) (show _=bj w.aW.cq by rw[<- pD];exact axp qJ) (by simp_all) (by omega) (⟨ha dJ _ (aS aq) hO _ (aS aq) ir.sF,LK (ab:=H) pL aq _,?_⟩);exact ai (adZ _ pO (by omega)) (ai (kV ad) (⟨by simp[ad],hO.left.left⟩))
 clear hO;rintro aG H ⟨rfl,hO⟩
 try simp only[cR,cS]
 refine bT (fun ad=>?_) (fun ad=>?_)
 ·rw[if_pos ad]at ag;refine aY (uN hO 3 (o:=0+45) rfl rfl (by simp_all[jm.j0,uM]) (Sy qJ 153) ?_);clear hO;intro H hO;exact ag H nU Ht ⟨ir.q,ir.aW,ir.b9,ir.fM,ir.uO,ir.s,ir.m,ir.own,ir.ez,ir.wr⟩ hO
 ·rw[if_neg ad]at ag;refine aY (uN hO 3 (o:=0+44) rfl rfl (by simp_all[jm.j0,uM]) (LR qJ 4) ?_);clear hO;intro H hO;exact ag H nU Ht ⟨ir.q,ir.aW,ir.b9,ir.fM,ir.uO,ir.s,ir.m,ir.own,ir.ez,ir.wr⟩ hO
theorem qv.cons(h:qv S v (x::aj)):x.length=64/\∃(p k c j:Nat) (w:Bool) (all:List (List Int)),v=aF p (k*64) (aj.length+1) c/\(c=128\/c=129)/\x::aj=all.drop k/\k<all.length/\S[j]?=some (p,⟨rQ all,w⟩)/\(∀y∈all,y.length=64)/\((rQ all).drop (k*64)).take 64=bj x:=by
 rcases h with⟨_,h⟩|⟨p,k,c,j,w,all,ad,af,ax,aO,bl,aA⟩
 ·cases h
 ·have kF:k<all.length:=by grind
  have ao:all[k]=x:=by grind[List.drop_eq_getElem_cons]
  refine⟨ao▸bl _ (List.getElem_mem kF),p,k,c,j,w,all,ad,aA,af,kF,aO,bl,?_⟩;have bL:=GL (f:=bj) (l:=all) (n:=64) (o:=0) (m:=64) (fun s ao=>by simp_all) kF (by omega);rw[Nat.add_zero]at bL;unfold rQ;rw[bL,List.drop_zero,ao];exact List.take_of_length_le (by grind)
theorem axA{p o n c:Nat}(aA:c=128\/c=129):hP 64 (aF p o (n+1) c) (some (int 1)) none none=some (aF p (o+64) n c):=by
 have e:Nat.beq (n+1) (n+1)=true:=Nat.beq_refl _;rcases aA with rfl|rfl
 ·rfl
 ·show some (Value.slice (some ⟨p,o+1*64,none⟩) (n+1-1) (cond (false||Nat.beq (n+1) (n+1)) 129 128))=_
  grind
theorem axB{s:gK}{cA:Nat}{f:bt->bt×Int}(h:(s.as m cA f).2=0):(f {m with dW:=s.im}).2=0:=by grind[gK.as]
theorem axC{l0:Int}(h:(m.eS l0 bh x).2=0):bh<m.size l0:=by
 unfold bt.eS at h;split at h
 ·omega
 ·rename_i ad;have ad:(m.iX l0 bh).2=0:=Classical.not_not.1 ad;unfold bt.iX at ad;split at ad
  ·cases ad
  ·split at ad
   ·cases ad
   simp_all[bt.size]
theorem qv.tail(h:qv S v (x::aj)):∃aQ,hP 64 v (some (int 1)) none none=some aQ/\qv S aQ aj:=by
 obtain⟨aD,p,k,c,j,w,all,rfl,aA,af,ag,aO,bl,_⟩:=h.cons;refine⟨_,axA aA,.inr ⟨p,k+1,c,j,w,all,?_,?_,by omega,aO,bl,aA⟩⟩
 ·simp_all
 grind[List.drop_eq_getElem_cons]
theorem axD(bc:j2 S w B)(sz:w.fM=x::aj)(aV:w.m.hR 1000000)(hO:jR H S F w B)(ag:∀ab dn,B.fg dn->j2 S (w.fill x aj) dn->jR ab S F (w.fill x aj) dn->aa (.tuple [].toArray) ab):wCall P 143 [ak B.c 0] H aa:=by
 apply ap3;unfold aah;have aJ:=bc.aW.dR;have wP:=bc.fM;rw[sz]at wP;have axE:ct x:=bc.uO x (by simp_all);obtain⟨aD,p,k,c,j,Hu,all,JS,aA,af,kF,aO,bl,bL⟩:=wP.cons;refine aY (jQ hO 3 rfl (v:=ak B.l 0) rfl (aY (jQ hO 3 rfl (v:=bS .u64 w.cA) rfl (aY (jQ hO 3 rfl (Sx aJ) (aY (jQ hO 3 rfl (Sw aJ) ?_)))))));rw[JS];refine ai (ky (by omega) (by omega)) (jM hO j (aS (aS (aS aO))) (show _=bj x by simp_all) (by simp_all) (by omega) (awV (rP:=x) bc.s bc.m.ok aV aD hO bc.own (B6 B w) ?_));clear hO;intro H cv he hO hv;refine aY (SA aJ he hO ?_);clear hO;intro H hO
 replace hO:jR H S F (w.pV x) (B.at cv):=hO
 have ir:j2 S (w.pV x) (B.at cv):=bc.put (Su bc.m (afl aD axE)) hv;have Ht:B.fg (B.at cv):=jm.ha he;have qJ:=ir.aW.dR;refine aY (jQ hO 3 rfl (LQ qJ) (ai fz ?_));unfold bU.fill at ag;refine bT (fun h=>?_) (fun h=>?_)
 ·rw[if_pos h]at ag;have ea:(w.wr:Int)<w.m.size (w.s.part w.s.dh):=axC (m:={w.m with dW:=w.s.im}) (axB h);have eU:=bt.GY bc.m.ok (part:=w.s.part w.s.dh);refine aY (jQ hO 3 rfl (Sw qJ) ?_);obtain⟨aQ,bn,bQ⟩:=wP.tail;refine ai bn (aY (uN hO 3 (o:=0+42) rfl bQ.gd (by simp_all[jm.j0,uM]) (afi qJ aQ) ?_));clear hO;intro H hO;refine aY (jQ hO 3 (v:=int w.wr) rfl (Sx qJ) (ai (v:=int ((w.wr+1:Nat):Int)) (by grind[mn]) (aY (uN hO 3 (o:=0+43) rfl rfl (by simp_all[uM]) (axr qJ (w.wr+1)) ?_))));clear hO;intro H hO;exact ag H {B.at cv with hq:=aQ} ⟨rfl,rfl,rfl,rfl,rfl,he⟩ ⟨ir.q,ir.aW,ir.b9,bQ,fun y ba=>bc.uO y (by grind),ir.s,ir.m,ir.own,ir.ez,by grind⟩ hO
 ·rw[if_neg h]at ag;exact ag H _ Ht ir hO
end J
namespace J
open Go Go.Ab
variable[cu:b0]
variable{H:au}{b8 S F X:List (Nat×az)}{aa:VH}{v bb:Value}{p o k n:Nat}{e a cb:Int}{m:bt}{aW aI:df}{w:bU}{B dn:jm}{bs x:List Int}
def bU.q5(w:bU)(m:df):Int:=if¬eB m then 192 else if m.c0>64*(w.size:Int)then 145 else 0
def bU.zX(w:bU)(m:df):bU:=if w.q5 m=0 then {w with aW:=m,dx:=1}else w
theorem bU.axF(w:bU)(m:df):w.ym m={w.zX m with bu:=w.q5 m}:=by
 unfold bU.ym bU.zX;by_cases h:eB m
 ·by_cases af:m.c0>64*(w.size:Int)
  ·have e:w.q5 m=145:=by simp_all[bU.q5]
   simp_all
  ·have e:w.q5 m=0:=by simp_all[bU.q5]
   simp_all
 ·have e:w.q5 m=192:=by simp_all[bU.q5]
  simp_all
theorem j2.bu(h:j2 S w B)(e:Int):j2 S {w with bu:=e} B:=⟨h.q,h.aW,h.b9,h.fM,h.uO,h.s,h.m,h.own,h.ez,h.wr⟩
theorem axG{t:TypeId}{c:Bool}{n:Nat}(h:n<=4096):(ay P .mul t c).f (.int .i64 64) (int n)=some (int (64*(n:Int))):=R7 (by omega) (by omega)
theorem axH(bc:j2 S w B)(ok:aI.b1)(aA:fR S bb aI.a1)(hO:jR H S F w B)(ag:∀ab dn,B.fg dn->j2 S (w.zX aI) dn->jR ab S F (w.zX aI) dn->aa (int (w.q5 aI)) ab):wCall P 207 [ak B.c 0,agg (int cb::b4 aI bb)] H aa:=by
 apply aqK;unfold aa3;have aJ:=bc.aW.dR;rw[uH];refine dT hO ?_;clear hO;intro fm H hO
 replace hO:=LS hO
 have ax:∀ {b8},((((S++(F++[(fm,(⟨int cb::b4 aI bb,true⟩:az))]))++B.fu w)++b8))[S.length+(F.length+0)]?=some (fm,⟨int cb::b4 aI bb,true⟩):=aS (aS (aC (aC rfl)));have afm:((int cb::b4 aI bb).drop (0+1)).take 37=b4 aI bb:=List.take_of_length_le (Nat.le_of_eq (e1 ok.dR));have PD:(⟨int cb::b4 aI bb,true⟩:az).cells.all fH=true:=by show(true&&(b4 aI bb).all fH)=true;rw[zL aA.sF];rfl
 refine ai ed (jM hO _ ax afm (e1 ok.dR) (by omega) (Ex ok aA.bo.bo.bo hO ?_));clear hO;intro H hO;refine ai jt ?_;by_cases U:eB aI
 ·refine eX (by simp[U]) (ai ed (ai ed (aZ hO _ ax (v:=int aI.c0) rfl (aY (jQ hO 3 rfl (v:=ak B.l 0) rfl (aY (jQ hO 3 rfl (v:=int w.dh) rfl ?_)))))));have dJ:=hO;refine Sl hO (B6 B w) ?_;clear hO;intro cD hO;refine⟨ha dJ _ ax hO _ ax PD,?_⟩;have eU:=bt.GY bc.m.ok (part:=w.s.part w.dh);refine ai (axG eU) (ai sl (bT (fun h=>?_) (fun h=>?_)))
  ·have e:w.q5 aI=145:=by unfold bU.q5;rw[if_neg (by simp[U])];exact if_pos h
   unfold bU.zX at ag;rw[e,if_neg (by decide)]at ag;exact ag cD B .gm bc (zW hO)
  ·have e:w.q5 aI=0:=by unfold bU.q5;rw[if_neg (by simp[U])];exact if_neg h
   unfold bU.zX at ag;rw[e,if_pos rfl]at ag;refine ai ed (jM hO _ ax afm (e1 ok.dR) (by omega) (aY (o9 hO ((S++(F++[(fm,(⟨int cb::b4 aI bb,true⟩:az))])).length+3) (aS (aC rfl)) (e1 ok.dR) (by simp_all[jm.j0,uM]) (pg aA.gd) ?_)));clear hO dJ;intro H hO;rw[List.set_append_left _ _ (by simp[jm.fu,LU];omega),Go.Ab.cy]at hO;rw[show(B.j0 w).take (0+4)++(dp (agg (b4 aI bb))++(B.j0 w).drop (0+4+37))=iq B.l w.cA w.dh B.A.r aI bb w.ez B.hq w.wr w.dx w.bu from axs aJ ok.dR]at hO
   replace hO:jR H S (F++[(fm,⟨int cb::b4 aI bb,true⟩)]) {w with aW:=aI} {B with b9:=bb}:=hO
   refine aY (uN hO 3 (o:=0+44) rfl rfl (by rw[jm.j0,uM ok.dR];omega) (LR ok.dR 1) ?_);clear hO;intro H hO;exact ag H {B with b9:=bb} ⟨rfl,rfl,rfl,rfl,rfl,.gm⟩ ⟨bc.q,ok,aA,bc.fM,bc.uO,bc.s,bc.m,bc.own,bc.ez,bc.wr⟩ (zW hO)
 ·refine fU (by simp[U]) ?_;have e:w.q5 aI=192:=by simp_all[bU.q5]
  unfold bU.zX at ag;rw[e,if_neg (by decide)]at ag;exact ag H B .gm bc (zW hO)
def bU.uP(w:bU)(a:Int)(bs:List Int):Int:=if a≠w.ez\/(gw w.aW a).2=0\/(bs.length:Int)≠(gw w.aW a).2 then 192 else 0
def bU.yn(w:bU)(a:Int)(bs:List Int):bU:=if w.uP a bs=0 then {w with fM:=my bs,ez:=w.ez+1}else w
theorem bU.axI(w:bU)(a:Int)(bs:List Int):w.body a bs={w.yn a bs with bu:=w.uP a bs}:=by
 unfold bU.body bU.yn;by_cases h:a≠w.ez\/(gw w.aW a).2=0\/(bs.length:Int)≠(gw w.aW a).2
 ·simp_all[bU.uP]
 ·have e:w.uP a bs=0:=by unfold bU.uP;omega
  grind
theorem axJ(h:(gw aW a).2≠0):eB aW/\0<=a/\a<aW.a1.length/\aW.a1.length<=64/\0<=(gw aW a).2/\(gw aW a).2<=1024:=by
 unfold gw at h⊢;split at h
 ·omega
 ·rename_i ad;have U:eB aW:=Classical.byContradiction fun af=>ad (.inl af)
  obtain⟨c4,cw,ru,LI⟩:=LH (i:=a) U (by omega) (by omega);obtain⟨_,_,_,_,_,eJ,hx,_,_,aX⟩:=U
  grind
theorem axK{b:List Int}(h:ct b):∀s∈my b,ct s:=by
 intro s aw;obtain⟨k,_,rfl⟩:=List.mem_map.1 aw;intro x ao;rcases List.mem_append.1 ao with ad|ad
 ·grind
 simp_all
theorem axL{fM:List (List Int)}(hv:jN 64 v fM.length (rQ fM))(aD:∀s∈fM,s.length=64):qv (b2 v (rQ fM)) v fM:=by
 rcases hv with⟨rfl,h,_⟩|⟨p,h,_⟩
 ·exact .inl ⟨rfl,List.length_eq_zero_iff.1 h⟩
 ·have aA:∃c,v=aF p 0 fM.length c/\(c=128\/c=129):=by grind
  obtain⟨c,rfl,aA⟩:=aA;exact .inr ⟨p,0,c,0,true,fM,by rfl,rfl,by omega,rfl,aD,aA⟩
theorem axM(bc:j2 S w B)(hv:cl S v bs)(an:ct bs)(hO:jR H S F w B)(ag:∀ab dn X,B.fg dn->j2 (S++X) (w.yn a bs) dn->jR ab (S++X) F (w.yn a bs) dn->aa (int (w.uP a bs)) ab):wCall P 208 [ak B.c 0,agg [int a,v]] H aa:=by
 apply aqL;unfold aa4;have aJ:=bc.aW.dR;have gO:∀ab dn,B.fg dn->j2 S (w.yn a bs) dn->jR ab S F (w.yn a bs) dn->aa (int (w.uP a bs)) ab:=fun ab dn ad af ax=>ag ab dn [] ad af.bo (by rw[List.append_nil];exact ax)
 rw[uH];refine dT hO ?_;clear hO;intro fm H hO
 replace hO:=LS hO
 have ax:∀ {b8},((((S++(F++[(fm,(⟨[int a,v],true⟩:az))]))++B.fu w)++b8))[S.length+(F.length+0)]?=some (fm,⟨[int a,v],true⟩):=aS (aS (aC (aC rfl)));refine aY (jM hO ((S++(F++[(fm,(⟨[int a,v],true⟩:az))])).length+3) (aS (aC rfl)) (axo aJ) (e1 aJ) (by omega) (ai ed (aZ hO _ ax (v:=int a) rfl (R8 bc.aW bc.b9.bo.bo.bo hO ?_))));clear hO;intro H hO;refine ai rfl (ai rfl ?_);have k2:(a≠w.ez\/(gw w.aW a).2=0\/(bs.length:Int)≠(gw w.aW a).2)->∀ab,jR ab S (F++[(fm,⟨[int a,v],true⟩)]) w B->aa (int 192) ab:=by
  intro h ab hO;have e:w.uP a bs=192:=by simp_all[bU.uP]
  unfold bU.yn at gO;rw[e,if_neg (by decide)]at gO;exact gO ab B .gm bc (zW hO)
 refine gb (fun aG ab=>aG=[ak B.c 0,ak fm 0]/\¬(a≠w.ez\/(gw w.aW a).2=0\/(bs.length:Int)≠(gw w.aW a).2)/\jR ab S (F++[(fm,⟨[int a,v],true⟩)]) w B) ?_ ?_
 ·refine ai ed (aZ hO _ ax (v:=int a) rfl (aY (jQ hO 3 rfl (Sv aJ) (ai jh (bT (fun h=>?_) (fun h=>?_))))))
  ·exact ai (ju h) (ai mI (fU rfl (k2 (.inl h) H hO)))
  ·refine ai fz (ai (kV h) (bT (fun ad=>?_) (fun ad=>?_)))
   ·exact ai (ju ad) (fU rfl (k2 (.inr (.inl ad)) H hO))
   ·refine ai ed (aZ hO _ ax (v:=v) rfl (cH hv.cG (ai jh (ai (kV ad) (bT (fun af=>?_) (fun af=>?_))))))
    ·exact k2 (.inr (.inr af)) H hO
    ·exact⟨rfl,fun aO=>by omega,hO⟩
 clear hO;rintro aG H ⟨rfl,Hh,hO⟩
 try simp only[cR,cS]
 have wI:(gw w.aW a).2≠0:=fun h=>Hh (.inr (.inl h))
 have afn:a=w.ez:=Classical.byContradiction fun h=>Hh (.inl h)
 have oI:(bs.length:Int)=(gw w.aW a).2:=Classical.byContradiction fun h=>Hh (.inr (.inr h))
 obtain⟨_,bX,b7,g3,g4,g5⟩:=axJ wI;have e:w.uP a bs=0:=by simp_all[bU.uP]
 unfold bU.yn at ag;rw[e,if_pos rfl]at ag;refine ai ed (aZ hO _ ax (v:=v) rfl (axh hO hv.bo.bo.bo (by omega) ?_));clear hO;intro H bV hO tZ
 replace hO:=axt hO
 have wP:qv (S++b2 bV (rQ (my bs))) bV (my bs):=by
  have:=axL tZ aw3;rcases this with h|⟨p,k,c,j,aL,all,ad,af,ax,aO,bl⟩
  ·exact .inl h
  ·exact .inr ⟨p,k,c,S.length+j,aL,all,ad,af,ax,aC aO,bl⟩
 refine aY (uN hO 3 (o:=0+42) rfl wP.gd (by simp_all[jm.j0,uM]) (afi aJ bV) ?_);clear hO;intro H hO;refine aY (jQ hO 3 (v:=int w.ez) rfl (Sv aJ) ?_);have wo:=bc.ez;refine ai (v:=int ((w.ez+1:Nat):Int)) (by grind[mn]) (aY (uN hO 3 (o:=0+41) rfl rfl (by grind[uM]) (axq aJ (w.ez+1)) ?_));clear hO;intro H hO;exact ag H {B with hq:=bV} _ ⟨rfl,rfl,rfl,rfl,rfl,.gm⟩ ⟨bc.q.bo,bc.aW,bc.b9.bo,wP,axK an,bc.s,bc.m,bc.own,by grind,bc.wr⟩ (zW hO)
end J
namespace J
open Go Go.Ab
variable[cu:b0]
variable{H:au}{Γ kH b8 S F X:List (Nat×az)}{aa:VH}{v bb:Value}{bx:List Value}{o n:Nat}{e a cb:Int}{m:bt}{L:lG}{aW aI:df}{w:bU}{B dn:jm}{bs x:List Int}{aj:List (List Int)}{ej:jl}
theorem axN(x:Value):mB 316 (h3 P 316) (.iface 313 x)=some (.tuple #[agg (dq P 316),.bool false]):=by rfl
theorem afo(x:Value):mB 316 (h3 P 316) (.iface 316 x)=some (.tuple #[x,.bool true]):=by rfl
theorem afp(x:Value):mB 316 (h3 P 316) (.iface 327 x)=some (.tuple #[agg (dq P 316),.bool false]):=by rfl
theorem afq(x:Value):mB 316 (h3 P 316) (.iface 320 x)=some (.tuple #[agg (dq P 316),.bool false]):=by rfl
theorem axO(x:Value):mB 327 (h3 P 327) (.iface 313 x)=some (.tuple #[agg (dq P 327),.bool false]):=by rfl
theorem axP(x:Value):mB 327 (h3 P 327) (.iface 316 x)=some (.tuple #[agg (dq P 327),.bool false]):=by rfl
theorem axQ(x:Value):mB 327 (h3 P 327) (.iface 327 x)=some (.tuple #[x,.bool true]):=by rfl
theorem axR(x:Value):mB 327 (h3 P 327) (.iface 320 x)=some (.tuple #[agg (dq P 327),.bool false]):=by rfl
theorem axS(x:Value):mB 320 (h3 P 320) (.iface 313 x)=some (.tuple #[agg (dq P 320),.bool false]):=by rfl
theorem axT(x:Value):mB 320 (h3 P 320) (.iface 316 x)=some (.tuple #[agg (dq P 320),.bool false]):=by rfl
theorem axU(x:Value):mB 320 (h3 P 320) (.iface 320 x)=some (.tuple #[x,.bool true]):=by rfl
theorem afr(x:Value):yI 316 (.iface 316 x)=some x:=by rfl
theorem axV(x:Value):yI 320 (.iface 320 x)=some x:=by rfl
theorem LW:dq P 327=[int 0,bB]:=by rfl
theorem axW(aJ:w.aW.cq.length=32)(hO:jR H S F w B)(e:Int)(ag:∀ab,jR ab S F {w with bu:=e} B->aa undef ab):ah (bC 1 (ak B.c 45) (int e) H) aa:=
 uN hO 3 (o:=0+45) rfl rfl (by simp_all[jm.j0,uM]) (Sy aJ e) ag
theorem axX(bc:j2 S w B)(aX:uI S ej [v])(hO:jR H S F w B)(ag:∀ab dn X,B.fg dn->j2 (S++X) (w.kr ej) dn->jR ab (S++X) F (w.kr ej) dn->aa (.tuple [].toArray) ab):wCall P 144 [ak B.c 0,v] H aa:=by
 apply ap5;unfold Qt;have aJ:=bc.aW.dR;have gO:∀ab dn,B.fg dn->j2 S (w.kr ej) dn->jR ab S F (w.kr ej) dn->aa (.tuple [].toArray) ab:=fun ab dn ad af ax=>ag ab dn [] ad af.bo (by rw[List.append_nil];exact ax)
 refine dT hO ?_;clear hO;intro bI H hO
 replace hO:=LS hO
 replace hO:jR H S (F++[(bI,⟨[ak B.c 0],true⟩)]) w B:=hO
 have af:∀ {b8 h1 vT dn aL},((((h1++((F++[(bI,(⟨[ak B.c 0],true⟩:az))])++vT))++jm.fu dn aL)++b8))[h1.length+(F.length+0)]?=some (bI,⟨[ak B.c 0],true⟩):=aS (aS (aC (aS (aC rfl))));have pH:∀ {b8 h1 dn aL},((((h1++(F++[(bI,(⟨[ak B.c 0],true⟩:az))]))++jm.fu dn aL)++b8))[h1.length+(F.length+0)]?=some (bI,⟨[ak B.c 0],true⟩):=aS (aS (aC (aC rfl)));refine aZ hO _ pH (v:=ak B.c 0) rfl (aY (jQ hO 3 rfl (Hr aJ) (ai fz ?_)));have eC:∀(e:Int) (dF:bU) (nU:jm) (bw:au) (S1:List (Nat×az)) (X:List (Nat×az)),S1=S++X->B.fg nU->j2 S1 dF nU->jR bw S1 (F++[(bI,⟨[ak B.c 0],true⟩)]) dF nU->w.kr ej={dF with bu:=e}->
   ah (bC 1 (ak nU.c 45) (int e) bw) fun aU cD=>aa (.tuple [].toArray) cD:=by
  intro e dF nU bw S1 X bE ck ir dJ he;subst bE;refine axW ir.aW.dR dJ e ?_;intro cD dd;refine ag cD nU X ck ?_ ?_
  ·rw[he];exact ir.bu e
  ·rw[he];exact zW dd
 refine bT (fun h=>?_) (fun h=>?_)
 ·-- Av waits
  have yo:w.dx=0:=by omega
  have jG:w.kr ej={w with bu:=192}->ah (aB (ak bI 0) H) fun SB SC=>
    ae (r3 SB) fun SD=>ae (cB 45 SD) fun t46=>ah (bC 1 t46 (.int .i64 192) SC) fun SE SF=>aa (.tuple [].toArray) SF:=by
   intro he;exact aZ hO _ pH (v:=ak B.c 0) rfl (aY (eC 192 w B H S [] (by grind) .gm bc hO he))
  cases ej with
  | il a=>
   have aX:[v]=[.iface 313 (agg [int a])]:=aX;injection aX with aX _
   subst aX;exact ai (axN _) (ai (show _=some (Value.bool false)from rfl) (eX rfl (jG (by unfold bU.kr;simp_all))))
  | body a bs=>
   obtain⟨ev,aX,_⟩:=aX;injection aX with aX _
   subst aX;exact ai (afp _) (ai (show _=some (Value.bool false)from rfl) (eX rfl (jG (by unfold bU.kr;simp_all))))
  | eC=>
   have aX:[v]=[.iface 320 (agg [])]:=aX;injection aX with aX _
   subst aX;exact ai (afq _) (ai (show _=some (Value.bool false)from rfl) (eX rfl (jG (by unfold bU.kr;simp_all))))
  | nk cb aI=>
   obtain⟨bb,aX,aA,ok⟩:=aX;injection aX with aX _
   subst aX;refine ai (afo _) (ai (show _=some (Value.bool true)from rfl) (fU rfl (aZ hO _ pH (v:=ak B.c 0) rfl (aZ hO _ pH (v:=ak B.c 0) rfl (ai (afr _) ?_)))));have dJ:=hO;refine axH bc ok aA hO ?_;clear hO;intro cD dn ck zY hO;refine⟨ha dJ _ pH hO _ pH rfl,?_⟩;refine aY ?_;rw[<- ck.c];exact eC (w.q5 aI) (w.zX aI) dn cD S [] (by simp_all) ck zY hO (by unfold bU.kr;rw[if_pos yo];exact w.axF aI)
 ·have yo:¬w.dx=0:=by omega
  cases ej with
  | body a bs=>
   obtain⟨ev,aX,jZ,vf⟩:=aX;injection aX with aX _
   subst aX;obtain⟨dm,e8,db,o5⟩:=jZ.lC;refine ai (axQ _) (ai (show _=some (agg [int a,ev])from rfl) (ai (show _=some (Value.bool true)from rfl) ?_));rw[LW];refine dT hO ?_;clear hO;intro cY H hO;refine gl hO (_+0) (aC rfl) rfl rfl (by rw[o5];rfl) ?_;clear hO;intro H hO
   replace hO:=LS hO.cy
   replace hO:jR H S ((F++[(bI,⟨[ak B.c 0],true⟩)])++[(cY,⟨[int a,ev],true⟩)]) w B:=hO
   refine fU rfl (aZ hO _ af (v:=ak B.c 0) rfl (aZ hO _ af (v:=ak B.c 0) rfl (hi hO (S.length+((F++[(bI,(⟨[ak B.c 0],true⟩:az))]).length+0)) (aS (aS (aC (aC rfl)))) rfl (by omega) ?_)));have dJ:=hO;refine axM bc jZ vf hO ?_;clear hO;intro cD dn X ck zY hO;refine⟨ha dJ _ af hO _ af rfl,?_⟩;refine aY ?_;rw[<- ck.c];exact eC (w.uP a bs) (w.yn a bs) dn cD (S++X) X rfl ck zY (zW hO) (by unfold bU.kr;rw[if_neg yo];exact w.axI a bs)
  | il a=>
   have aX:[v]=[.iface 313 (agg [int a])]:=aX;injection aX with aX _
   subst aX;refine ai (axO _) (ai (show _=some (agg (dq P 327))from rfl) (ai (show _=some (Value.bool false)from rfl) ?_));rw[LW];refine dT hO ?_;clear hO;intro cY H hO;refine gl hO (_+0) (aC rfl) rfl rfl rfl ?_;clear hO;intro H hO;have hO:=hO.cy.left;exact eX rfl (ai (axS _) (ai (show _=some (Value.bool false)from rfl) (eX rfl (aZ hO _ pH (v:=ak B.c 0) rfl (aY (eC 192 w B H S [] (by simp_all) .gm bc hO (by unfold bU.kr;simp_all)))))))
  | nk cb aI=>
   obtain⟨bb,aX,aA,ok⟩:=aX;injection aX with aX _
   subst aX;refine ai (axP _) (ai (show _=some (agg (dq P 327))from rfl) (ai (show _=some (Value.bool false)from rfl) ?_));rw[LW];refine dT hO ?_;clear hO;intro cY H hO;refine gl hO (_+0) (aC rfl) rfl rfl rfl ?_;clear hO;intro H hO;have hO:=hO.cy.left;exact eX rfl (ai (axT _) (ai (show _=some (Value.bool false)from rfl) (eX rfl (aZ hO _ pH (v:=ak B.c 0) rfl (aY (eC 192 w B H S [] (by simp_all) .gm bc hO (by unfold bU.kr;simp_all)))))))
  | eC=>
   have aX:[v]=[.iface 320 (agg [])]:=aX;injection aX with aX _
   subst aX;refine ai (axR _) (ai (show _=some (agg (dq P 327))from rfl) (ai (show _=some (Value.bool false)from rfl) ?_));rw[LW];refine dT hO ?_;clear hO;intro cY H hO;refine gl hO (_+0) (aC rfl) rfl rfl rfl ?_;clear hO;intro H hO;have hO:=hO.cy.left;refine eX rfl (ai (axU _) (ai (show _=some (Value.bool true)from rfl) (fU rfl (ai (axV _) (aZ hO _ pH (v:=ak B.c 0) rfl (aY (jQ hO 3 rfl (Sv aJ) (aZ hO _ pH (v:=ak B.c 0) rfl (aY (ai ed (jQ hO 3 rfl (axn aJ) (cH bc.b9.cG (ai gj (bT (fun ad=>?_) (fun ad=>?_)))))))))))))))
   ·exact aZ hO _ pH (v:=ak B.c 0) rfl (aY (eC 192 w B H S [] (by simp_all) .gm bc hO (by unfold bU.kr;simp_all)))
   ·refine aZ hO _ pH (v:=ak B.c 0) rfl (aY (uN hO 3 (o:=0+44) rfl rfl (by simp_all[jm.j0,uM]) (LR aJ 3) ?_));clear hO;intro H hO;have he:w.kr .eC={w with dx:=3}:=by unfold bU.kr;grind
    rw[he]at gO;exact gO H B .gm ⟨bc.q,bc.aW,bc.b9,bc.fM,bc.uO,bc.s,bc.m,bc.own,bc.ez,bc.wr⟩ (zW hO)
theorem oj.tail{R:fW}{l:List jl}(h:oj S R (ej::l)):∃a aP,R.aP=[a]::aP/\uI S ej [a]/\Al (uI S) l aP:=by
 have br:=h.sJ;generalize qf:R.aP=ajc at br;cases br with
 | cons ad af=>
  rename_i b m;have:b.length=1:=h.mQ.B1 b (by simp_all)
  grind[List.length_eq_one_iff]
theorem axY(h:al H (((S++F)++kH)++b8)):al H ((S++F)++(kH++b8)):=by rw[<- List.append_assoc];exact h
theorem axZ(bc:j2 S w B)(eU:0<=w.aW.c0)(aV:w.m.hR 1000000)(hO:jR H S F w B)(ag:∀ab dn X,B.fg dn->j2 (S++X) w.step.2 dn->jR ab (S++X) F w.step.2 dn->aa (.bool w.step.1) ab):wCall P 66 [ak B.c 0] H aa:=by
 apply ao8;unfold Zb;have aJ:=bc.aW.dR;have gO:∀ab dn,B.fg dn->j2 S w.step.2 dn->jR ab S F w.step.2 dn->aa (.bool w.step.1) ab:=fun ab dn ad af ax=>ag ab dn [] ad af.bo (by rw[List.append_nil];exact ax)
 refine gb (fun aG ab=>aG=[ak B.c 0,.bool (decide (w.bu≠0\/w.dx=4))]/\ab=H) ?_ ?_
 ·refine aY (jQ hO 3 rfl (LQ aJ) (ai jh (bT (fun h=>?_) (fun h=>?_))))
  ·exact ai (ju h) (⟨by simp[h],rfl⟩)
  ·refine aY (jQ hO 3 rfl (Hr aJ) (ai fz (ai (kV h) (⟨?_,rfl⟩))));rw[decide_eq_decide.2 (show((w.dx:Int)=4)↔(w.bu≠0\/w.dx=4)from⟨fun ad=>.inr (by omega),fun ad=>by omega⟩)]
 rintro aG ab ⟨rfl,rfl⟩
 try simp only[cR,cS]
 unfold bU.step at ag gO;refine bT (fun h=>?_) (fun h=>?_)
 ·rw[if_pos h]at gO;exact gO _ B .gm bc hO
 rw[if_neg h]at gO ag;refine aY (jQ hO 3 rfl (Hr aJ) (ai fz (bT (fun ad=>?_) (fun ad=>?_))))
 ·rw[if_pos (by omega)]at gO;exact axv bc aV hO gO
 rw[if_neg (by omega)]at gO ag;refine aY (jQ hO 3 rfl (Hr aJ) (ai fz (bT (fun af=>?_) (fun af=>?_))))
 ·rw[if_pos (by omega)]at gO;exact axy bc eU aV hO gO
 rw[if_neg (by omega)]at gO ag;refine aY (jQ hO 3 rfl (Sw aJ) (cH bc.fM.cG (ai sl ?_)));cases sz:w.fM with
 | cons x aj=>rw[sz]at gO;exact fU (by simp) (axD bc sz aV hO gO)
 | nil=>
  rw[sz]at gO ag;refine eX (by simp) (aY (jQ hO 3 rfl (v:=ak B.A.r 0) rfl ?_));have b5:=bc.q;refine aeQ (Γ:=S++F) (i:=1) (j:=0) (axY hO) rfl rfl (by decide) b5.mQ ?_ ?_
  ·intro he;have Ux:w.q=[]:=by
    have:=b5.len
    grind
   rw[Ux]at gO;exact ai km (ai kn (ai jt (fU rfl (gO _ B .gm bc hO))))
  ·intro a bu he cD bx x3 dd;cases hwq:w.q with
   | nil=>rw[hwq]at b5;have:=b5.len;rw[he]at this;simp at this
   | cons ej l=>
    rw[hwq]at ag b5;obtain⟨cr,Sg,xF,sv,th⟩:=b5.tail;rw[he]at xF;injection xF with bn bF
    injection bn with bn _
    subst bn bF;refine ai km (ai kn (ai jt (eX rfl ?_)))
    replace dd:jR cD S F {w with q:=l} {B with A:=B.A.dP bx bu}:=by show al cD (((S++F)++LU (B.A.dP bx bu) B.l _ B.c _)++dQ B.L w.m);rw[List.append_assoc];exact dd
    have zY:j2 S {w with q:=l} {B with A:=B.A.dP bx bu}:=⟨⟨x3,th⟩,bc.aW,bc.b9,bc.fM,bc.uO,bc.s,bc.m,bc.own,bc.ez,bc.wr⟩;refine axX (B:={B with A:=B.A.dP bx bu}) zY sv dd ?_;intro iM ax0 X ck afs kC;rw[sz]at afs kC;exact ag iM ax0 X ⟨ck.r,ck.q,ck.n,ck.l,ck.c,ck.L⟩ afs kC
end J
namespace J
open Go Go.Ab
variable[cu:b0]
variable{H:au}{Γ b8:List (Nat×az)}{aa:VH}{v:Value}{ar:List Value}{p l:Nat}{a im i:Int}{s:gK}
def gK.gR(s:gK)(im i:Int):Nat×Int×gK:=if i<0\/2<=i\/im<1 then(0,101,s)else if s.pk≠0 then(0,161,s)else(s.ig+1,0,{s with im:=im,dh:=i,pk:=s.ig+1,ig:=s.ig+1})
theorem ax1(a b:Int)(n:Nat):(di P 189).f [(0,int a),(1,int b),(2,bS .u64 n)]=some (agg [int a,int b,bS .u64 n]):=by rfl
theorem ax2(hg:s.ig<1000)(hO:al H ((Γ++[(l,⟨fr s p,true⟩)])++b8))(ag:∀ab,al ab ((Γ++[(l,⟨fr (s.gR im i).2.2 p,true⟩)])++b8)->aa (.tuple [bS .u64 (s.gR im i).1,int (s.gR im i).2.1].toArray) ab):wCall P 32 [ak l 0,int im,int i] H aa:=by
 apply aoH;unfold YI;unfold gK.gR at ag;refine gb (fun aG ab=>aG=[ak l 0,int im,int i,.bool (decide (i<0\/2<=i\/im<1))]/\ab=H) ?_ ?_
 ·refine ai gj (bT (fun h=>?_) (fun h=>?_))
  ·exact ai (ju h) (ai mI (⟨by simp[h],rfl⟩))
  ·refine ai uk (ai (kV h) (bT (fun ad=>?_) (fun ad=>?_)))
   ·exact ai (ju ad) (⟨by grind,rfl⟩)
   ·refine ai gj (ai (kV ad) (⟨?_,rfl⟩))
    grind
 rintro aG ab ⟨rfl,rfl⟩
 try simp only[cR,cS]
 refine bT (fun h=>?_) (fun h=>?_)
 ·rw[if_pos h]at ag;exact ag _ hO
 rw[if_neg h]at ag;refine aY (jM hO (Γ.length+0) (aS (aC rfl)) (ar:=[int s.im,int s.dh,bS .u64 s.pk]) rfl rfl (by omega) (ae8 hO ?_));clear hO;intro H hO;refine bT (fun ad=>?_) (fun ad=>?_)
 ·rw[if_pos ad]at ag;exact ag H hO
 rw[if_neg ad]at ag;refine aY (jQ hO 0 rfl (v:=bS .u64 s.ig) rfl (ai (v:=bS .u64 (s.ig+1)) ?_ ?_))
 ·rw[show(.int .u64 1:Value)=bS .u64 1 from rfl,sq rfl];show some (bS .u64 ((s.ig+1)%18446744073709551616))=_
  grind
 refine aY (uN hO 0 (o:=0+6) rfl rfl (show 6<7 by omega) rfl ?_);clear hO;intro H hO;refine aY (jQ hO 0 rfl (v:=bS .u64 (s.ig+1)) rfl (ai (ax1 _ _ _) (aY (o9 hO (Γ.length+0) (aS (aC rfl)) rfl (show 0+0+3<=7 by omega) rfl ?_))));clear hO;intro H hO;rw[List.set_append_left _ _ (by simp),Go.Ab.cy]at hO;exact aY (jQ hO 0 rfl (v:=bS .u64 (s.ig+1)) rfl (ag H hO))
theorem ax3(cV:Nat)(a b:Int):(di P 191).f [(1,ak cV 0),(2,agg [int a,int b])]=some (agg (fr ⟨0,0,0,0,a,b⟩ cV)):=by rfl
theorem ax4{cV:Nat}{a b:Int}(hO:al H Γ)(ag:∀ab l,al ab (Γ++[(l,⟨fr ⟨0,0,0,0,a,b⟩ cV,true⟩)])->aa (ak l 0) ab):wCall P 59 [ak cV 0,agg [int a,int b]] H aa:=by apply ao1;unfold Y4;rw[uH];refine dT hO ?_;clear hO;intro fm H hO;refine hi hO (Γ.length+0) (aC rfl) (n:=2) rfl (by omega) (ai (ax3 _ _ _) ?_);rw[uH];refine dT hO ?_;clear hO;intro l H hO;refine ag H l (hO.sub ?_);exact List.Sublist.append (List.sublist_append_left Γ _) (List.Sublist.refl _)
theorem ax5(l r:Nat)(t:Nat)(i:Int):(di P 259).f [(0,ak l 0),(1,bS .u64 t),(2,int i),(3,ak r 0)]=some (agg (iq l t i r eW bB 0 bB 0 0 0)):=by rfl
theorem ax6{r t:Nat}(hO:al H Γ)(ag:∀ab c,al ab (Γ++[(c,⟨iq l t i r eW bB 0 bB 0 0 0,true⟩)])->aa (ak c 0) ab):wCall P 82 [ak l 0,bS .u64 t,int i,ak r 0] H aa:=by apply apn;unfold Zr;refine ai (ax5 _ _ _ _) ?_;rw[uH];refine dT hO ?_;clear hO;intro c H hO;exact ag H c hO
def mh(aft:Nat)(dh:Int):bU:=⟨⟨5,dh,1,1,0,1⟩,1,dh,[],eW,0,[],0,0,0,⟨bO.cN 60 100,l8 0 [aft,aft],0,[]⟩⟩
theorem ax7(p:Nat):(ay P .eql 36 true).f (ak p 0) (.pointer none)=some (.bool false):=by rfl
theorem ax8(p:Nat):(ay P .eql 38 true).f (ak p 0) (.pointer none)=some (.bool false):=by rfl
end J
namespace J
open Go Go.Ab
variable[cu:b0]
variable{H:au}{Γ:List (Nat×az)}{aa:VH}{v w x bb:Value}{b:List Int}{i p q n k f:Nat}{ar:List Value}{cz:List UInt8}{m:df}{dN:Nat}{aE:Int}
theorem _root_.Go.Ab.jN.LD{size:Nat}(h:jN size v n ar):eP v=true:=by rcases h with⟨rfl,_⟩|⟨p,rfl|rfl,_⟩<;>rfl
def EI(b:List Int)(C i:Nat):List Int:=gB ((b.drop (i*C)).take C)
def oP(cz:List UInt8)(dN:Nat)(aE:Int)(b:List Int)(y:Nat):df:=⟨cz,dN,b.length,aE,gB b,(List.range y).map (EI b aE.toNat)⟩
def ma(cz:List UInt8)(dN:Nat)(aE:Int)(b:List Int):df:=oP cz dN aE b (l9 b.length aE).toNat
theorem B7{y:Nat}:(oP cz dN aE b y).a1.length=y:=by simp[oP]
theorem SG{y:Nat}(hv:dN<18446744073709551616)(aA:-9223372036854775808<=aE/\aE<=9223372036854775807)(aD:b.length<=1000000)(bM:cz.length<=10000)(ba:y<=10000):(oP cz dN aE b y).b1:=by
 refine⟨pO,Ev,?_,?_,hv,⟨by show-9223372036854775808<=((b.length:Nat):Int);omega,by show((b.length:Nat):Int)<=_;omega⟩,aA,by grind[B7],bM⟩
 ·intro x ao;obtain⟨i,_,rfl⟩:=List.mem_map.1 ao;rfl
 ·intro x ao;obtain⟨i,_,rfl⟩:=List.mem_map.1 ao;exact Ev
theorem ax9(cz:List UInt8)(dN:Nat)(c0 aE:Int)(cq:List Int)(aJ:cq.length=32):(di P 55).f [(0,bZ cz),(1,bS .u64 dN),(2,int c0),(3,int aE),(4,agg (bj cq))]=some (agg (b4 ⟨cz,dN,c0,aE,cq,[]⟩ bB)):=by
 match cq,aJ with
 | [a0,dm,da,a3,a4,a5,lF,np,pI,a9,Rz,RA,RB,RC,RD,RE,Bv,RF,RG,RH,a20,a21,RI,RJ,RK,RL,RM,RN,RO,RP,RQ,RR],_=>rfl
theorem afu:(di P 55).f []=some (agg (b4 eW bB)):=by rfl
theorem aya{m a:df}(ad:m.cz=a.cz)(af:m.dN=a.dN)(ax:m.c0=a.c0)(aO:m.aE=a.aE)(bl:m.cq=a.cq):b4 m v=b4 a v:=by simp_all[b4]
theorem ayb{size n:Nat}(h:jN size v n ar):fH v=true:=by rcases h with⟨rfl,_⟩|⟨p,rfl|rfl,_⟩<;>rfl
theorem ayc(y:Nat):(oP cz dN aE b (y+1)).a1=(oP cz dN aE b y).a1++[EI b aE.toNat y]:=by simp[oP,List.range_succ]
theorem ayd(hO:al H Γ)(hv:cl Γ v b)(an:ct b)(aD:b.length<=1000000)(G6:dN<18446744073709551616)(jb:-9223372036854775808<=aE/\aE<=9223372036854775807)(bM:cz.length<=10000)
  (gO:¬eB (ma cz dN aE b)->∀ab,al ab Γ->aa (.tuple [agg (b4 eW bB),int 131].toArray) ab)
  (sw:eB (ma cz dN aE b)->∀ab bb,al ab (Γ++b2 bb (hK (ma cz dN aE b).a1))->fR (b2 bb (hK (ma cz dN aE b).a1)) bb (ma cz dN aE b).a1->aa (.tuple [agg (b4 (ma cz dN aE b) bb),int 0].toArray) ab):
  wCall P 69 [bZ cz,bS .u64 dN,int aE,v] H aa:=by
 apply apc;unfold Zg;rw[Ez];refine j8 hO.z ?_;clear hO;intro j7 H hO
 replace hO:al H (Γ++[(j7,⟨b4 eW bB,true⟩)]):=hO
 refine cH hv.cG (GZ hO hv.bo an (by omega) ?_);clear hO;intro H hO;refine ai (ax9 _ _ _ _ _ pO) (j8 hO ?_);clear hO;intro lX H hO;refine lo hO 1 rfl (by rfl) (e1 pO) (pg rfl) ?_;clear hO;intro H hO;refine cH hv.cG (adR (by omega) (by omega) ?_);have yY:ma cz dN aE b=oP cz dN aE b (l9 b.length aE).toNat:=rfl;have IZ:0<=l9 b.length aE:=Rs;generalize SH:l9 b.length aE=Q at*;obtain⟨N,rfl⟩:∃N:Nat,Q=N:=⟨Q.toNat,by omega⟩;rw[Int.toNat_natCast]at yY;rw[yY]at gO sw;refine ai sl (bT (fun EC=>?_) (fun EC=>?_))
 ·refine ai afu (lo hO 0 rfl (by rfl) (by rfl) (by rfl) ?_);clear hO;intro H hO;refine jj hO 0 rfl (by rfl) (by omega) (gO ?_ H hO.left);intro U;have:=U.2.2.2.2.2.2.2.2.2
  grind[B7]
 have ny:N<=64:=by omega
 have Hg:N=0\/∃C:Nat,aE=C/\0<C/\(N-1)*C<=b.length/\b.length<=N*C/\0<N:=by
  unfold l9 at SH;split at SH
  ·omega
  ·right;rename_i dj;refine⟨aE.toNat,by omega,by omega,?_⟩;have bn:(((b.length:Nat):Int)-1)/aE=(((b.length-1)/aE.toNat:Nat):Int):=by grind
   rw[bn]at SH;have ad:=Nat.div_mul_le_self (b.length-1) aE.toNat;have af:=Nat.lt_div_mul_add (a:=b.length-1) (b:=aE.toNat) (by omega);have ax:N-1=(b.length-1)/aE.toNat:=by grind
   have aCF:0<N:=by omega
   have aO:N*aE.toNat=(b.length-1)/aE.toNat*aE.toNat+aE.toNat:=by grind[Int.ofNat_inj]
   grind
 have afv:∀y,y<=N->(oP cz dN aE b y).b1:=fun y ba=>SG G6 jb aD bM (by omega)
 have SI:∀(y:Nat) (z:Value),b4 (oP cz dN aE b y) z=b4 (oP cz dN aE b 0) z:=fun y z=>aya rfl rfl rfl rfl rfl
 have aJ:=(afv 0 (Nat.zero_le _)).dR
 replace hO:al H ((Γ++[(j7,⟨b4 eW bB,true⟩),(lX,⟨b4 (oP cz dN aE b 0) bB,true⟩)])++b2 bB (hK (oP cz dN aE b 0).a1)):=hO.z
 refine apb (fun k aG ab=>∃(y:Nat) (bb:Value),y<=N/\k=N-y/\aG=[int aE,v,ak j7 0,int 0,ak lX 0,int N,int y]/\al ab ((Γ++[(j7,⟨b4 eW bB,true⟩),(lX,⟨b4 (oP cz dN aE b 0) bb,true⟩)])++b2 bb (hK (oP cz dN aE b y).a1))/\jN 32 bb y (hK (oP cz dN aE b y).a1)) _ _ ?_ N _ _ ⟨0,bB,by omega,by omega,rfl,hO,.nil⟩;clear hO;rintro k aG H ⟨y,bb,ba,rfl,rfl,hO,zQ⟩;unfold Zf
 try simp only[cR,cS]
 refine ai gj (bT (fun ea=>?_) (fun ea=>?_))
 ·have ba:y<N:=by omega
  obtain⟨C,rfl,jO,vg,p7,aCG⟩:=Hg.resolve_left (by omega);have aCH:y*C<=(N-1)*C:=Nat.mul_le_mul_right C (by omega);have aye:(y+1)*C=y*C+C:=Nat.succ_mul y C;refine ai (R7 (by omega) (by omega)) (cH hv.cG (gb (fun aG ab=>aG=[int C,v,ak j7 0,int 0,ak lX 0,int N,int y,int ((y*C:Nat):Int),int ((min (y*C+C) b.length:Nat):Int)]/\H=ab) ?_ ?_))
  ·refine ai (nL (by omega) (by omega)) (ai gj (bT (fun h=>?_) (fun h=>?_)))
   ·have bl:y*C+C<=(N-1)*C:=by rw[<- aye];exact Nat.mul_le_mul_right C (by omega)
    refine ai (mn (by omega) (by omega)) (⟨?_,rfl⟩);rw[show min (y*C+C) b.length=y*C+C by omega,Int.natCast_add,Int.natCast_mul]
   ·have bL:y=N-1:=by omega
    have bl:N*C=y*C+C:=by grind
    refine⟨?_,rfl⟩
    simp_all
  rintro aG ab ⟨rfl,rfl⟩
  try simp only[cR,cS]
  refine ai ed (aZ hO (Γ.length+1) (aS (aC rfl)) (uB aJ) ?_);obtain⟨w,aM,xu⟩:=RX hv (i:=y*C) (t:=min (y*C+C) b.length) (by omega) (by omega);refine ai aM ?_;have dJ:=hO;refine GZ hO (xu _ hv).bo.bo (ct.drop (ct.take an)) (by grind) ?_;clear hO;intro H hO;refine⟨ha dJ (Γ.length+1) (aS (aC rfl)) hO (Γ.length+1) (aS (aC rfl)) (zL (ayb zQ)),?_⟩;clear dJ;have adv:gB ((b.take (min (y*C+C) b.length)).drop (y*C))=EI b (C:Int).toNat y:=by
   unfold EI;rw[Int.toNat_natCast]
   congr 1
   rw[List.drop_take];by_cases cn:y*C+C<=b.length
   ·simp_all
   grind[List.length_drop]
  rw[adv];have rn:(EI b (C:Int).toNat y).length=32:=pO;refine ih hO (ad9 _ rn _) ?_;clear hO;intro q H hO;refine Ej hO zQ (by rfl) (by omega) (lT _) (by omega) (by omega) ?_;clear hO;intro oi H hO zR;rw[<- RS,<- ayc]at hO zR;refine ai ed (fQ hO (Γ.length+1) (aS (aC rfl)) zR.LD (by grind[e1]) (awE aJ) ?_);clear hO;intro H hO;rw[List.set_append_left _ _ (by simp),Go.Ab.cy]at hO;exact ai (ED (b:=1) (by omega)) (⟨N-(y+1),by omega,y+1,oi,by omega,rfl,rfl,hO,zR⟩)
 ·have lW:y=N:=by omega
  subst lW;refine kW rfl ?_
  try simp only[cR,cS]
  have BX:=afv y (Nat.le_refl _);have lQ:fR (b2 bb (hK (oP cz dN aE b y).a1)) bb (oP cz dN aE b y).a1:=aea (by rw[B7];exact zQ);rw[<- SI y bb]at hO;refine hi hO (Γ.length+1) (aS (aC rfl)) (e1 BX.dR) (by omega) (Rt BX lQ.jv hO ?_);clear hO;intro H hO;refine ai jt (sk (fun U=>?_) (fun U=>?_))
  ·have U:¬eB (oP cz dN aE b y):=by simp_all
   refine ai afu (gl hO (Γ.length+0) (aS (aC rfl)) (by rfl) (by rfl) (by rfl) ?_);clear hO;intro H hO;rw[List.set_append_left _ _ (by simp),Go.Ab.cy]at hO;exact hi hO (Γ.length+0) (aS (aC rfl)) (by rfl) (by omega) (gO U H hO.left.left)
  ·have U:eB (oP cz dN aE b y):=by simpa using U
   refine hi hO (Γ.length+1) (aS (aC rfl)) (e1 BX.dR) (by omega) (gl hO (Γ.length+0) (aS (aC rfl)) (by rfl) (e1 BX.dR) (pg lQ.gd) ?_);clear hO;intro H hO;rw[List.set_append_left _ _ (by simp),Go.Ab.cy]at hO;exact hi hO (Γ.length+0) (aS (aC rfl)) (e1 BX.dR) (by omega) (sw U H bb (al.cf hO) lQ)
end J
namespace J
open Go Go.Ab
variable[cu:b0]
variable{d eE:bO}{m:bt}{s:List Int}{l:List (List Int)}{i:Nat}
def nV(d:bO)(i:Nat):List Int:=(d.cells.getD i ij).ur
def ej(d:bO)(i:Nat):List Int:=(d.cells.getD i ij).e5
def wr(d:bO)(i:Nat):Int:=(d.cells.getD i ij).jz
def kk(l:List (Nat×List Int)):List Nat:=l.map (·.1)
theorem ayf{l:List (Nat×List Int)}{x:Nat×List Int}(h:x∈l):x.1∈kk l:=List.mem_map.2 ⟨x,h,rfl⟩
theorem afw{a b:List (Nat×List Int)}:kk (a++b)=kk a++kk b:=List.map_append
structure B8 (d:bO):Prop where
 sm:(kk d.done).Nodup
 lt:∀x∈d.done,x.1<d.cells.length
 p:∀i w,(i,w)∈d.done->ej d i=w
 n:∀i,i∉kk d.done->ej d i=nV d i
theorem SJ{l:List Cell}{i j:Nat}{c:Cell}(h:i<l.length):(l.set i c).getD j ij=if i=j then c else l.getD j ij:=by grind
structure fg (d eE:bO):Prop where
 c:eE.cells=d.cells
 w:eE.done=d.done
 m:eE.gQ=d.gQ
theorem fg.nV(h:fg d eE):nV eE i=nV d i:=by unfold J.nV;rw[h.c]
theorem fg.ej(h:fg d eE):ej eE i=ej d i:=by unfold J.ej;rw[h.c]
theorem fg.wr(h:fg d eE):wr eE i=wr d i:=by unfold J.wr;rw[h.c]
theorem fg.lg(h:fg d eE)(aM:B8 d):B8 eE:=⟨by rw[h.w];exact aM.sm,by rw[h.w,h.c];exact aM.lt,by rw[h.w];intro i w aq;rw[h.ej];exact aM.p i w aq,by rw[h.w];intro i aq;rw[h.ej,h.nV];exact aM.n i aq⟩
theorem afx:fg d d.step:=⟨rfl,rfl,rfl⟩
theorem SK(h:d.fK=false)(an:d.gv≠0):d.step.fK=false:=by
 show(d.fK||decide (d.gv=0))=false
 simp_all
theorem afy(h:d.step.fK=true)(aJ:d.fK=false):d.gv=0:=by
 have h:(d.fK||decide (d.gv=0))=true:=h
 simp_all
theorem LY(h:d.gv<0):d.step.gv=d.gv:=if_neg (by omega)
structure vU (d:bO) (i:Nat) (s:List Int) (eE:bO):Prop where
 len:eE.cells.length=d.cells.length
 m:eE.gQ=d.gQ
 w:eE.done=d.done++[(i,s)]
 k:∀j,nV eE j=nV d j
 s:∀j,ej eE j=if i=j then s else ej d j
 h9:eE.fK=false
 jf:d.gv<0->eE.gv=d.gv
theorem vU.lg(h:vU d i s eE)(aM:B8 d)(aq:i<d.cells.length)(aX:i∉kk d.done):B8 eE:=by
 refine⟨?_,?_,?_,?_⟩
 ·rw[h.w,afw,List.nodup_append];refine⟨aM.sm,by simp[kk],fun a br b an=>?_⟩
  grind[kk]
 ·rw[h.w,h.len];intro x ao;rcases List.mem_append.1 ao with ao|ao
  ·exact aM.lt x ao
  simp_all
 ·rw[h.w];intro j w bp;rw[h.s];rcases List.mem_append.1 bp with bp|bp
  ·rw[if_neg (fun e:i=j=>aX (by rw[e];exact ayf bp))];exact aM.p j w bp
  simp_all
 ·rw[h.w];intro j bp;rw[afw,List.mem_append,not_or]at bp;rw[h.s,h.k,if_neg (fun e=>bp.2 (by simp_all[kk]))];exact aM.n j bp.1
theorem afz(aq:i<d.cells.length)(bD:d.fK=false)(s:List Int){kB:bO}(aR:∀j,nV d j=nV kB j)(ad:∀j,ej d j=ej kB j)(af:d.done=kB.done)(ax:d.gQ=kB.gQ)(aO:d.cells.length=kB.cells.length)(bl:kB.gv<0->d.gv=kB.gv):vU kB i s (d.put (i:Int) s):=by
 have aJ:d.cell (i:Int)=d.cells.getD i ij:=by rfl
 refine⟨?_,ax,?_,fun j=>?_,fun j=>?_,bD,bl⟩
 ·show(d.cells.set _ _).length=_;simp_all
 ·show d.done++[((i:Int).toNat,s)]=_;simp_all
 ·rw[<- aR];unfold nV;show((d.cells.set (i:Int).toNat _).getD j ij).ur=_
  grind
 ·rw[<- ad];unfold ej;show((d.cells.set (i:Int).toNat _).getD j ij).e5=_
  grind
theorem LZ(aq:i<d.cells.length):d.hF (i:Int):=⟨by omega,by omega⟩
structure ef (d eE:bO):Prop where
 s:fg d eE
 cZ:eE.fK=true
 b:0<=d.gv
theorem afA(aq:i<d.cells.length)(bD:d.fK=false)(aM:wr d i<d.gQ):
  ((d.fb i).2=62/\ef d (d.fb i).1)\/((d.fb i).2=0/\vU d i jd (d.fb i).1/\∀j,wr (d.fb i).1 j=if i=j then wr d i+1 else wr d j):=by
 have aA:d.cell (i:Int)=d.cells.getD i ij:=by rfl
 unfold bO.fb;rw[if_neg (fun h=>h (LZ aq)),if_neg (by grind),if_neg (by simp_all[wr])];by_cases h:d.step.fK=true
 ·rw[if_pos h];have an:=afy h bD;exact .inl ⟨rfl,afx,h,by omega⟩
 ·rw[if_neg h];have h:=Bool.eq_false_iff.2 h;refine .inr ⟨rfl,?_,fun j=>?_⟩
  ·have aD:(d.step.h6 (i:Int) {d.cell i with jz:=(d.cell i).jz+1}).cells.length=d.cells.length:=by show(d.cells.set _ _).length=_;simp_all
   refine afz (d:=d.step.h6 (i:Int) {d.cell i with jz:=(d.cell i).jz+1}) (kB:=d) (by omega) h jd (fun j=>?_) (fun j=>?_) rfl rfl aD (fun an=>LY an)
   ·unfold nV;show((d.cells.set (i:Int).toNat _).getD j ij).ur=_
    grind
   ·unfold ej;show((d.cells.set (i:Int).toNat _).getD j ij).e5=_
    grind
  ·unfold wr;show(((d.cells.set (i:Int).toNat _).set (i:Int).toNat _).getD j ij).jz=_;rw[Int.toNat_natCast,SJ (by simp_all)];by_cases e:i=j
   ·subst e;rw[if_pos rfl,if_pos rfl];show(((d.cells.set (i:Int).toNat _).getD (i:Int).toNat ij)).jz=_
    simp_all
   simp_all
theorem afB(aq:i<d.cells.length)(bD:d.fK=false)(an:ej d i=jd):
  ((d.eS i s).2=62/\ef d (d.eS i s).1)\/((d.eS i s).2=0/\vU d i s (d.eS i s).1/\∀j,wr (d.eS i s).1 j=wr d j):=by
 have aA:d.cell (i:Int)=d.cells.getD i ij:=by rfl
 unfold bO.eS;rw[if_neg (fun h=>h (LZ aq)),if_neg (by grind),if_neg (by simp_all[ej])];by_cases h:d.step.fK=true
 ·rw[if_pos h];have an:=afy h bD;exact .inl ⟨rfl,afx,h,by omega⟩
 ·rw[if_neg h];have h:=Bool.eq_false_iff.2 h;refine .inr ⟨rfl,?_,fun j=>?_⟩
  ·exact afz (d:=d.step) (kB:=d) aq h s (fun j=>rfl) (fun j=>rfl) rfl rfl rfl (fun an=>LY an)
  ·unfold wr;show((d.cells.set (i:Int).toNat _).getD j ij).jz=_;rw[Int.toNat_natCast,SJ aq];by_cases e:i=j
   ·subst e;rw[if_pos rfl];rfl
   simp_all
structure afC (d eE:bO):Prop where
 len:eE.cells.length=d.cells.length
 m:eE.gQ=d.gQ
 w:eE.done=[]
 k:∀j,nV eE j=ej d j
 s:∀j,ej eE j=ej d j
 wr:∀j,wr eE j=wr d j
 h9:eE.fK=false
 jf:d.gv<0->eE.gv=d.gv
theorem afC.lg(h:afC d eE):B8 eE:=⟨by rw[h.w];simp[kk],(by rw[h.w];simp_all),(by grind[w]),fun i _=>by rw[h.s,h.k]⟩
def ayg(old cN ayh:List Int):Prop:=∃n,n<=64/\ayh=cN.take n++old.drop n
structure afD (d eE:bO):Prop where
 len:eE.cells.length=d.cells.length
 m:eE.gQ=d.gQ
 w:eE.done=[]
 s:∀j,ej eE j=nV eE j
 n:∀j,j∉kk d.done->nV eE j=nV d j
 t:∀j w,(j,w)∈d.done->ayg (nV d j) w (nV eE j)
 wr:∀j,wr eE j=wr d j
 h9:eE.fK=false
 jf:eE.gv=-1
theorem afD.lg(h:afD d eE):B8 eE:=⟨by rw[h.w];simp[kk],(by rw[h.w];simp_all),(by grind[w]),fun i _=>h.s i⟩
end J
namespace J
open Go Go.Ab
variable[cu:b0]
variable{d eE kB:bO}{m lM:bt}{s:List Int}{l:List (List Int)}{j:Nat}{A B:Nat}{b:Int}
def off(A:Nat)(b:Int):Nat:=if b=0 then 0 else A
def kI(A B:Nat)(b:Int):Nat:=if b=0 then A else B
structure h8 (m:bt) (A B:Nat):Prop where
 cF:∃r,m.jF=(0,A)::(A,B)::r
 B9:A+B<=m.d.cells.length
abbrev mR(b:Int):Prop:=b=0\/b=1
theorem yp(h:h8 m A B)(an:mR b):m.hF b/\m.rJ b=(off A b,kI A B b):=by
 obtain⟨r,e⟩:=h.cF;unfold bt.hF bt.rJ;rw[e];rcases an with rfl|rfl
 ·exact⟨⟨by omega,by grind⟩,rfl⟩
 ·exact⟨⟨by omega,by grind⟩,rfl⟩
theorem Ca(h:h8 m A B)(an:mR b):m.size b=kI A B b:=by unfold bt.size;rw[if_pos (yp h an).1,(yp h an).2]
theorem yq(h:h8 m A B)(an:mR b){y:Nat}(ba:y<kI A B b):off A b+y<m.d.cells.length:=by
 have:=h.B9
 grind[kI,off]
theorem yr(h:h8 m A B)(an:mR b){y:Nat}(ba:y<kI A B b):m.iX b y=(((off A b+y:Nat):Int),0):=by unfold bt.iX;rw[if_neg (fun af=>af (yp h an).1),(yp h an).2,if_neg (by omega)];rfl
theorem afE(bp:j<d.cells.length):(d.gA (j:Int)).1=ej d j:=by simp_all[bO.gA,LZ,bO.cell,ej]
theorem Cb(h:h8 m A B)(an:mR b){y:Nat}(ba:y<kI A B b):(m.gA b y).1=ej m.d (off A b+y):=by unfold bt.gA;rw[yr h an ba,if_neg (by simp)];exact afE (yq h an ba)
def cU(d:bO)(A B:Nat)(b:Int):List (List Int):=(List.range (kI A B b)).map fun y=>nV d (off A b+y)
theorem Cc(h:h8 m A B)(ad:lM.jF=m.jF)(af:lM.d.cells.length=m.d.cells.length):h8 lM A B:=⟨by rw[ad];exact h.cF,by rw[af];exact h.B9⟩
def w2(b:Int)(l:List Op):Prop:=∀o∈l,o.part=b
theorem L0{o:Op}{e:Int}(bJ:o.part=b)(h:w2 b m.bA):w2 b (m.pM o e).bA:=by
 unfold bt.pM;split
 ·intro x ao;rcases List.mem_append.1 ao with ao|ao
  ·exact h x ao
  simp_all
 ·exact h
theorem SL(h:h8 m A B)(an:mR b){y:Nat}(ba:y<kI A B b):(m.fb b y).1.d=(m.d.fb ((off A b+y:Nat):Int)).1/\(m.fb b y).2=(m.d.fb ((off A b+y:Nat):Int)).2/\(m.fb b y).1.jF=m.jF/\(w2 b m.bA->w2 b (m.fb b y).1.bA):=by
 unfold bt.fb;rw[yr h an ba,if_neg (by simp)]
 simp_all[bt.yc,bt.BH,L0]
theorem SM(h:h8 m A B)(an:mR b){y:Nat}(ba:y<kI A B b):(m.eS b y s).1.d=(m.d.eS ((off A b+y:Nat):Int) s).1/\(m.eS b y s).2=(m.d.eS ((off A b+y:Nat):Int) s).2/\(m.eS b y s).1.jF=m.jF/\(w2 b m.bA->w2 b (m.eS b y s).1.bA):=by
 unfold bt.eS;rw[yr h an ba,if_neg (by simp)]
 simp_all[bt.yc,bt.BH,L0]
structure SN (kB d:bO) (eZ aq:Nat):Prop where
 len:d.cells.length=kB.cells.length
 m:d.gQ=kB.gQ
 lg:B8 d
 k:∀j,nV d j=nV kB j
 gJ:∀x∈d.done,eZ<=x.1/\x.1<aq/\x.2=jd
 dF:∀j,wr d j<=wr kB j+1
 e3:∀j,j∉kk d.done->wr d j<=wr kB j
 jf:kB.gv<0->d.gv=kB.gv
theorem SN.aT{eZ aq:Nat}(h:SN kB d eZ aq)(bJ:ef d eE):SN kB eE eZ aq:=by refine⟨by rw[bJ.s.c,h.len],by rw[bJ.s.m,h.m],bJ.s.lg h.lg,fun j=>by rw[bJ.s.nV,h.k],by rw[bJ.s.w];exact h.gJ,fun j=>by rw[bJ.s.wr];exact h.dF j,fun j bp=>by rw[bJ.s.wr];exact h.e3 j (by rw[<- bJ.s.w];exact bp),fun an=>?_⟩;have:=bJ.b;have:=h.jf an;omega
end J
