/- texts of the nF, e5 behind the l0 -/
import Derived.Test.YtifflnhooaophaaGreatDoorUJ
set_option linter.unusedVariables false
set_option linter.unusedSimpArgs false
set_option linter.unusedSectionVars false
set_option maxHeartbeats 4000000
set_option maxRecDepth 100000
open List Nat
namespace J
open Go Go.Ab
variable[cr:bW]
variable{H:ar}{ae S F:List (Nat×ay)}{ab:VH}{v:Value}{p o k n:Nat}{e aZ a:Int}{m:bn}{L cA:kV}{aI:dm}{w:bN}{B dj:jB}{x:List Int}{ak:List (List Int)}
theorem axW{l r dv cK wr dL:Nat}{dc bA:Int}{bY hk:Value}(hv:fE bY=true)(h2:fE hk=true):(iq l cK dc r aI bY dv hk wr dL bA).all fE=true:=by
 show(true&&(true&&(true&&(true&&(bM aI bY++[int dv,hk,int wr,int dL,int bA]).all fE))))=true;rw[all_append,yn hv];show(true&&(true&&(fE hk&&(true&&(true&&(true&&true))))))=true
 grind
theorem qu.q9{gi:List (List Int)}(h:qu S v gi):fE v=true:=by rcases h with⟨rfl,rfl⟩|⟨p,k,c,j,w,all,rfl,_⟩<;>rfl
theorem jQ.q9(h:jQ S w B):(B.jw w).all fE=true:=axW h.bY.q9 h.gi.q9
theorem bn.axX(ok:m.b6){j6:Int}:(m.all j6).length=64*m.size j6:=bn.QL ok _
theorem axY(aQ:jQ S w B)(fj:0<=w.aI.cU)(hm:w.m.hN 1000000)(hO:jL H S F w B)(ag:∀aa dj,B.fB dj->jQ S w.oA dj->jL aa S F w.oA dj->ab (.tuple [].toArray) aa):az P 142 [ai B.c 0] H ab:=by
 apply aqo;unfold Z0;have aO:=aQ.aI.cX;refine aU (jK hO 3 rfl (v:=ai B.l 0) rfl (aU (jK hO 3 rfl (v:=bQ .u64 w.cK) rfl (axm aQ.s aQ.m.ok hm hO aQ.own (B3 B w) ?_))));intro H cA he hO hv;refine aU (Sk aO he hO ?_);intro H hO
 replace hO:jL H S F w.oz (B.at cA):=hO
 have iH:jQ S w.oz (B.at cA):=aQ.put (Sf aQ.m afn) hv;have Hb:B.fB (B.at cA):=jB.gu he;have pA:w.oz.aI=w.aI:=rfl;have jC:w.oz.s=w.s:=rfl;have u7:w.oz.dc=w.dc:=rfl;unfold bN.oA at ag;generalize w.oz=dH at*;rw[show B.c=(B.at cA).c from rfl];generalize B.at cA=nB at*;have qL:=iH.aI.cX;refine aU (jK hO 3 rfl (Lx qL) (ah ik (bz (fun h=>?_) (fun h=>?_))));rw[if_pos h]at ag;exact ag H nB Hb iH hO;rw[if_neg h]at ag;refine aU (jK hO 3 rfl (v:=ai nB.l 0) rfl (aU (jK hO 3 rfl (v:=int dH.dc) rfl (axi iH.m.ok hO (B3 nB dH) ?_))));intro H axZ fW hO LB;rw[jC,u7]at LB;have nj:=bn.afk (j6:=w.s.part w.dc) iH.m.b;have kD:=bn.axX (j6:=w.s.part w.dc) iH.m.ok;have aDS:=bn.GF (part:=w.s.part w.dc) iH.m.ok;generalize dH.m.all (w.s.part w.dc)=b at*;refine e6 (fun aF aa=>aF=[ai nB.c 0,.bool (decide ((b.length:Int)<w.aI.cU\/hr (b.take w.aI.cU.toNat)≠w.aI.cD))]/\jL aa S F dH nB) ?_ ?_;refine bV LB.bP (aU (ah b0 (jK hO.left 3 rfl (show(nB.jw dH)[0+4+2]?=some (int w.aI.cU) by rw[<- pA];rfl) (ah ez (bz (fun h1=>?_) (fun h1=>?_))))));exact ah (hT h1) (⟨by simp[h1],hO.left⟩);refine aU (ah b0 (jK hO.left 3 rfl (show(nB.jw dH)[0+4+2]?=some (int w.aI.cU) by rw[<- pA];rfl) ?_));obtain⟨dS,bb,i1⟩:=wM LB.hF (n:=w.aI.cU.toNat) (by omega);rw[Int.toNat_of_nonneg fj]at bb;refine ah bb ?_;have om:=(i1 _ LB.hF).app' (ae:=(((S++F)++nB.fC dH)++du nB.L dH.m))
 obtain⟨a,k7,b5,rfl⟩:=om.kz;refine gj hO (adj _ _ _ _) ?_;have nP:=hO;intro q br hO;have eh:=hO;refine QK (j:=_+0) hO (aA rfl) om.app (fun x al=>nj x (mem_of_mem_take al)) (by rw[length_take];omega) ?_;intro cB hO;refine aU (ah b0 ?_);have aq:((((S++F)++nB.fC dH)++du nB.L dH.m)++bB axZ fW)[(S++F).length+3]?=some (nB.c,⟨nB.jw dH,true⟩):=aK (aK (aA rfl));refine hG hO _ (aK aq) (show _=a1 w.aI.cD by rw[<- pA];exact axO qL) (by simp_all) (by omega) (⟨gu eh _ (aK aq) hO _ (aK aq) iH.q9,GX (aa:=H) nP aq _,?_⟩);exact ah (K7 _ pO (by omega)) (ah (ho h1) (⟨by simp[h1],hO.left.left⟩));rintro aF H ⟨rfl,hO⟩
 try simp only[cu,cv]
 refine bz (fun h1=>?_) (fun h1=>?_);rw[if_pos h1]at ag;refine aU (uI hO 3 (o:=0+45) rfl rfl (by simp_all[jB.jw,uH]) (Sj qL 153) ?_);intro H hO;exact ag H nB Hb ⟨iH.q,iH.aI,iH.bY,iH.gi,iH.rl,iH.s,iH.m,iH.own,iH.dv,iH.wr⟩ hO;rw[if_neg h1]at ag;refine aU (uI hO 3 (o:=0+44) rfl rfl (by simp_all[jB.jw,uH]) (Ly qL 4) ?_);intro H hO;exact ag H nB Hb ⟨iH.q,iH.aI,iH.bY,iH.gi,iH.rl,iH.s,iH.m,iH.own,iH.dv,iH.wr⟩ hO
theorem qu.cons(h:qu S v (x::ak)):x.length=64/\∃(p k c j:Nat) (w:Bool) (all:List (List Int)),v=aC p (k*64) (ak.length+1) c/\(c=128\/c=129)/\x::ak=all.drop k/\k<all.length/\S[j]?=some (p,⟨r0 all,w⟩)/\(∀y∈all,y.length=64)/\((r0 all).drop (k*64)).take 64=a1 x:=by
 rcases h with⟨_,h⟩|⟨p,k,c,j,w,all,h1,h2,aB,bk,cj,aD⟩
 cases h;have nR:k<all.length:=by grind
 have al:all[k]=x:=by grind[drop_eq_getElem_cons]
 refine⟨al▸cj _ (getElem_mem nR),p,k,c,j,w,all,h1,aD,h2,nR,bk,cj,?_⟩;have dh:=zz (f:=a1) (l:=all) (n:=64) (o:=0) (m:=64) (fun s al=>by simp_all) nR (by omega);rw[Nat.add_zero]at dh;unfold r0;rw[dh,drop_zero,al];exact take_of_length_le (by grind)
theorem ax0{p o n c:Nat}(aD:c=128\/c=129):gL 64 (aC p o (n+1) c) (some (int 1)) none none=some (aC p (o+64) n c):=by
 have e:Nat.beq (n+1) (n+1)=true:=beq_refl _;rcases aD with rfl|rfl
 rfl;show some (Value.slice (some ⟨p,o+1*64,none⟩) (n+1-1) (cond (false||Nat.beq (n+1) (n+1)) 129 128))=_
 grind
theorem ax1{s:fM}{cK:Nat}{f:bn->bn×Int}(h:(s.as m cK f).2=0):(f {m with eo:=s.dw}).2=0:=by grind[fM.as]
theorem ax2{j6:Int}(h:(m.fz j6 aZ x).2=0):aZ<m.size j6:=by
 unfold bn.fz at h;split at h;omega;rename_i h1;have h1:(m.fH j6 aZ).2=0:=Classical.not_not.1 h1;unfold bn.fH at h1;split at h1;cases h1;split at h1;cases h1
 simp_all[bn.size]
theorem qu.tail(h:qu S v (x::ak)):∃aH,gL 64 v (some (int 1)) none none=some aH/\qu S aH ak:=by
 obtain⟨aE,p,k,c,j,w,all,rfl,aD,h2,ag,bk,cj,_⟩:=h.cons;refine⟨_,ax0 aD,.inr ⟨p,k+1,c,j,w,all,?_,?_,by omega,bk,cj,aD⟩⟩
 simp_all
 grind[drop_eq_getElem_cons]
theorem ax3(aQ:jQ S w B)(ql:w.gi=x::ak)(hm:w.m.hN 1000000)(hO:jL H S F w B)(ag:∀aa dj,B.fB dj->jQ S (w.fill x ak) dj->jL aa S F (w.fill x ak) dj->ab (.tuple [].toArray) aa):az P 143 [ai B.c 0] H ab:=by
 apply aqp;unfold aaa;have aO:=aQ.aI.cX;have wF:=aQ.gi;rw[ql]at wF;have ax4:cl x:=aQ.rl x (by simp_all);obtain⟨aE,p,k,c,j,zW,all,JB,aD,h2,nR,bk,cj,dh⟩:=wF.cons;refine aU (jK hO 3 rfl (v:=ai B.l 0) rfl (aU (jK hO 3 rfl (v:=bQ .u64 w.cK) rfl (aU (jK hO 3 rfl (Si aO) (aU (jK hO 3 rfl (Sh aO) ?_)))))));rw[JB];refine ah (h4 (by omega) (by omega)) (hG hO j (aK (aK (aK bk))) (show _=a1 x by simp_all) (by simp_all) (by omega) (axl (rZ:=x) aQ.s aQ.m.ok hm aE hO aQ.own (B3 B w) ?_));intro H cA he hO hv;refine aU (Sk aO he hO ?_);intro H hO
 replace hO:jL H S F (w.uG x) (B.at cA):=hO
 have iH:jQ S (w.uG x) (B.at cA):=aQ.put (Sf aQ.m (afo aE ax4)) hv;have Hb:B.fB (B.at cA):=jB.gu he;have qL:=iH.aI.cX;refine aU (jK hO 3 rfl (Lx qL) (ah fl ?_));unfold bN.fill at ag;refine bz (fun h=>?_) (fun h=>?_);rw[if_pos h]at ag;have dy:(w.wr:Int)<w.m.size (w.s.part w.s.dc):=ax2 (m:={w.m with eo:=w.s.dw}) (ax1 h);have fj:=bn.GF aQ.m.ok (part:=w.s.part w.s.dc);refine aU (jK hO 3 rfl (Sh qL) ?_);obtain⟨aH,bb,r1⟩:=wF.tail;refine ah bb (aU (uI hO 3 (o:=0+42) rfl r1.e5 (by simp_all[jB.jw,uH]) (afm qL aH) ?_));intro H hO;refine aU (jK hO 3 (v:=int w.wr) rfl (Si qL) (ah (v:=int ((w.wr+1:Nat):Int)) (by grind[jg]) (aU (uI hO 3 (o:=0+43) rfl rfl (by simp_all[uH]) (axQ qL (w.wr+1)) ?_))));intro H hO;exact ag H {B.at cA with hk:=aH} ⟨rfl,rfl,rfl,rfl,rfl,he⟩ ⟨iH.q,iH.aI,iH.bY,r1,fun y a8=>aQ.rl y (by grind),iH.s,iH.m,iH.own,iH.dv,by grind⟩ hO;rw[if_neg h]at ag;exact ag H _ Hb iH hO
end J
namespace J
open Go Go.Ab
variable[cr:bW]
variable{H:ar}{bX S F X:List (Nat×ay)}{ab:VH}{v aT:Value}{p o k n:Nat}{e a h8:Int}{m:bn}{aI gC:dm}{w:bN}{B dj:jB}{bs x:List Int}
def bN.rm(w:bN)(m:dm):Int:=if¬en m then 192 else if m.cU>64*(w.size:Int)then 145 else 0
def bN.zX(w:bN)(m:dm):bN:=if w.rm m=0 then {w with aI:=m,dL:=1}else w
theorem bN.ax5(w:bN)(m:dm):w.yw m={w.zX m with bA:=w.rm m}:=by
 unfold bN.yw bN.zX;by_cases h:en m;by_cases h2:m.cU>64*(w.size:Int);have e:w.rm m=145:=by simp_all[bN.rm]
 simp_all
 have e:w.rm m=0:=by simp_all[bN.rm]
 simp_all
 have e:w.rm m=192:=by simp_all[bN.rm]
 simp_all
theorem jQ.bA(h:jQ S w B)(e:Int):jQ S {w with bA:=e} B:=⟨h.q,h.aI,h.bY,h.gi,h.rl,h.s,h.m,h.own,h.dv,h.wr⟩
theorem ax6{t:TypeId}{c:Bool}{n:Nat}(h:n<=4096):(au P .mul t c).f (.int .i64 64) (int n)=some (int (64*(n:Int))):=Ep (by omega) (by omega)
theorem ax7(aQ:jQ S w B)(ok:gC.b6)(aD:eY S aT gC.bo)(hO:jL H S F w B)(ag:∀aa dj,B.fB dj->jQ S (w.zX gC) dj->jL aa S F (w.zX gC) dj->ab (int (w.rm gC)) aa):az P 207 [ai B.c 0,agg (int h8::bM gC aT)] H ab:=by
 apply aq9;unfold aa0;have aO:=aQ.aI.cX;rw[ri];refine c4 hO ?_;intro eX H hO
 replace hO:=Lz hO
 have aB:∀ {bX},((((S++(F++[(eX,(⟨int h8::bM gC aT,true⟩:ay))]))++B.fC w)++bX))[S.length+(F.length+0)]?=some (eX,⟨int h8::bM gC aT,true⟩):=aK (aK (aA (aA rfl)));have afp:((int h8::bM gC aT).drop (0+1)).take 37=bM gC aT:=take_of_length_le (Nat.le_of_eq (el ok.cX));have Pk:(⟨int h8::bM gC aT,true⟩:ay).cells.all fE=true:=by show(true&&(bM gC aT).all fE)=true;rw[yn aD.q9];rfl
 refine ah b0 (hG hO _ aB afp (el ok.cX) (by omega) (Eg ok aD.app.app.app hO ?_));intro H hO;refine ah jF ?_;by_cases U:en gC;refine et (by simp[U]) (ah b0 (ah b0 (aP hO _ aB (v:=int gC.cU) rfl (aU (jK hO 3 rfl (v:=ai B.l 0) rfl (aU (jK hO 3 rfl (v:=int w.dc) rfl ?_)))))));have eh:=hO;refine R6 hO (B3 B w) ?_;intro cB hO;refine⟨gu eh _ aB hO _ aB Pk,?_⟩;have fj:=bn.GF aQ.m.ok (part:=w.s.part w.dc);refine ah (ax6 fj) (ah kQ (bz (fun h=>?_) (fun h=>?_)));have e:w.rm gC=145:=by unfold bN.rm;rw[if_neg (by simp[U])];exact if_pos h
 unfold bN.zX at ag;rw[e,if_neg (by decide)]at ag;exact ag cB B .gl aQ (zV hO);have e:w.rm gC=0:=by unfold bN.rm;rw[if_neg (by simp[U])];exact if_neg h
 unfold bN.zX at ag;rw[e,if_pos rfl]at ag;refine ah b0 (hG hO _ aB afp (el ok.cX) (by omega) (aU (o0 hO ((S++(F++[(eX,(⟨int h8::bM gC aT,true⟩:ay))])).length+3) (aK (aA rfl)) (el ok.cX) (by simp_all[jB.jw,uH]) (nf aD.e5) ?_)));intro H hO;rw[set_append_left _ _ (by simp[jB.fC,LA];omega),Go.Ab.cb]at hO;rw[show(B.jw w).take (0+4)++(cZ (agg (bM gC aT))++(B.jw w).drop (0+4+37))=iq B.l w.cK w.dc B.A.r gC aT w.dv B.hk w.wr w.dL w.bA from axR aO ok.cX]at hO
 replace hO:jL H S (F++[(eX,⟨int h8::bM gC aT,true⟩)]) {w with aI:=gC} {B with bY:=aT}:=hO
 refine aU (uI hO 3 (o:=0+44) rfl rfl (by rw[jB.jw,uH ok.cX];omega) (Ly ok.cX 1) ?_);intro H hO;exact ag H {B with bY:=aT} ⟨rfl,rfl,rfl,rfl,rfl,.gl⟩ ⟨aQ.q,ok,aD,aQ.gi,aQ.rl,aQ.s,aQ.m,aQ.own,aQ.dv,aQ.wr⟩ (zV hO);refine fg (by simp[U]) ?_;have e:w.rm gC=192:=by simp_all[bN.rm]
 unfold bN.zX at ag;rw[e,if_neg (by decide)]at ag;exact ag H B .gl aQ (zV hO)
def bN.uJ(w:bN)(a:Int)(bs:List Int):Int:=if a≠w.dv\/(gm w.aI a).2=0\/(bs.length:Int)≠(gm w.aI a).2 then 192 else 0
def bN.yx(w:bN)(a:Int)(bs:List Int):bN:=if w.uJ a bs=0 then {w with gi:=lM bs,dv:=w.dv+1}else w
theorem bN.ax8(w:bN)(a:Int)(bs:List Int):w.body a bs={w.yx a bs with bA:=w.uJ a bs}:=by
 unfold bN.body bN.yx;by_cases h:a≠w.dv\/(gm w.aI a).2=0\/(bs.length:Int)≠(gm w.aI a).2
 simp_all[bN.uJ]
 have e:w.uJ a bs=0:=by unfold bN.uJ;omega
 grind
theorem ax9(h:(gm aI a).2≠0):en aI/\0<=a/\a<aI.bo.length/\aI.bo.length<=64/\0<=(gm aI a).2/\(gm aI a).2<=1024:=by
 unfold gm at h⊢;split at h;omega;rename_i h1;have U:en aI:=Classical.byContradiction fun h2=>h1 (.inl h2)
 obtain⟨di,cP,sq,RS⟩:=GV (i:=a) U (by omega) (by omega);obtain⟨_,_,_,_,_,ep,hl,_,_,aR⟩:=U
 grind
theorem aya{b:List Int}(h:cl b):∀s∈lM b,cl s:=by
 intro s aw;obtain⟨k,_,rfl⟩:=mem_map.1 aw;intro x al;rcases mem_append.1 al with h1|h1
 grind
 simp_all
theorem ayb{gi:List (List Int)}(hv:il 64 v gi.length (r0 gi))(aE:∀s∈gi,s.length=64):qu (bB v (r0 gi)) v gi:=by
 rcases hv with⟨rfl,h,_⟩|⟨p,h,_⟩
 exact .inl ⟨rfl,length_eq_zero_iff.1 h⟩;have aD:∃c,v=aC p 0 gi.length c/\(c=128\/c=129):=by grind
 obtain⟨c,rfl,aD⟩:=aD;exact .inr ⟨p,0,c,0,true,gi,by rfl,rfl,by omega,rfl,aE,aD⟩
theorem ayc(aQ:jQ S w B)(hv:b3 S v bs)(an:cl bs)(hO:jL H S F w B)(ag:∀aa dj X,B.fB dj->jQ (S++X) (w.yx a bs) dj->jL aa (S++X) F (w.yx a bs) dj->ab (int (w.uJ a bs)) aa):az P 208 [ai B.c 0,agg [int a,v]] H ab:=by
 apply ara;unfold aa1;have aO:=aQ.aI.cX;have gA:∀aa dj,B.fB dj->jQ S (w.yx a bs) dj->jL aa S F (w.yx a bs) dj->ab (int (w.uJ a bs)) aa:=fun aa dj h1 h2 aB=>ag aa dj [] h1 h2.app (by rw[append_nil];exact aB)
 rw[ri];refine c4 hO ?_;intro eX H hO
 replace hO:=Lz hO
 have aB:∀ {bX},((((S++(F++[(eX,(⟨[int a,v],true⟩:ay))]))++B.fC w)++bX))[S.length+(F.length+0)]?=some (eX,⟨[int a,v],true⟩):=aK (aK (aA (aA rfl)));refine aU (hG hO ((S++(F++[(eX,(⟨[int a,v],true⟩:ay))])).length+3) (aK (aA rfl)) (axN aO) (el aO) (by omega) (ah b0 (aP hO _ aB (v:=int a) rfl (RR aQ.aI aQ.bY.app.app.app hO ?_))));intro H hO;refine ah rfl (ah rfl ?_);have jW:(a≠w.dv\/(gm w.aI a).2=0\/(bs.length:Int)≠(gm w.aI a).2)->∀aa,jL aa S (F++[(eX,⟨[int a,v],true⟩)]) w B->ab (int 192) aa:=by
  intro h aa hO;have e:w.uJ a bs=192:=by simp_all[bN.uJ]
  unfold bN.yx at gA;rw[e,if_neg (by decide)]at gA;exact gA aa B .gl aQ (zV hO)
 refine e6 (fun aF aa=>aF=[ai B.c 0,ai eX 0]/\¬(a≠w.dv\/(gm w.aI a).2=0\/(bs.length:Int)≠(gm w.aI a).2)/\jL aa S (F++[(eX,⟨[int a,v],true⟩)]) w B) ?_ ?_;refine ah b0 (aP hO _ aB (v:=int a) rfl (aU (jK hO 3 rfl (Sg aO) (ah ik (bz (fun h=>?_) (fun h=>?_))))));exact ah (hT h) (ah ll (fg rfl (jW (.inl h) H hO)));refine ah fl (ah (ho h) (bz (fun h1=>?_) (fun h1=>?_)));exact ah (hT h1) (fg rfl (jW (.inr (.inl h1)) H hO));refine ah b0 (aP hO _ aB (v:=v) rfl (bV hv.bP (ah ik (ah (ho h1) (bz (fun h2=>?_) (fun h2=>?_))))));exact jW (.inr (.inr h2)) H hO;exact⟨rfl,fun bk=>by omega,hO⟩;rintro aF H ⟨rfl,ys,hO⟩
 try simp only[cu,cv]
 have pI:(gm w.aI a).2≠0:=fun h=>ys (.inr (.inl h))
 have LC:a=w.dv:=Classical.byContradiction fun h=>ys (.inl h)
 have o3:(bs.length:Int)=(gm w.aI a).2:=Classical.byContradiction fun h=>ys (.inr (.inr h))
 obtain⟨_,b7,ca,g3,g4,g5⟩:=ax9 pI;have e:w.uJ a bs=0:=by simp_all[bN.uJ]
 unfold bN.yx at ag;rw[e,if_pos rfl]at ag;refine ah b0 (aP hO _ aB (v:=v) rfl (axH hO hv.app.app.app (by omega) ?_));intro H vs hO tW
 replace hO:=axS hO
 have wF:qu (S++bB vs (r0 (lM bs))) vs (lM bs):=by
  have:=ayb tW axt;rcases this with h|⟨p,k,c,j,aV,all,h1,h2,aB,bk,cj⟩
  exact .inl h;exact .inr ⟨p,k,c,S.length+j,aV,all,h1,h2,aB,aA bk,cj⟩
 refine aU (uI hO 3 (o:=0+42) rfl wF.e5 (by simp_all[jB.jw,uH]) (afm aO vs) ?_);intro H hO;refine aU (jK hO 3 (v:=int w.dv) rfl (Sg aO) ?_);have tV:=aQ.dv;refine ah (v:=int ((w.dv+1:Nat):Int)) (by grind[jg]) (aU (uI hO 3 (o:=0+41) rfl rfl (by grind[uH]) (axP aO (w.dv+1)) ?_));intro H hO;exact ag H {B with hk:=vs} _ ⟨rfl,rfl,rfl,rfl,rfl,.gl⟩ ⟨aQ.q.app,aQ.aI,aQ.bY.app,wF,aya an,aQ.s,aQ.m,aQ.own,by grind,aQ.wr⟩ (zV hO)
end J
namespace J
open Go Go.Ab
variable[cr:bW]
variable{H:ar}{ae hH bX S F X:List (Nat×ay)}{ab:VH}{v aT:Value}{bu:List Value}{o n:Nat}{e a h8:Int}{m:bn}{L:kV}{aI gC:dm}{w:bN}{B dj:jB}{bs x:List Int}{ak:List (List Int)}{eC:j5}
theorem ayd(x:Value):mi 316 (hX P 316) (.iface 313 x)=some (.tuple #[agg (cQ P 316),.bool false]):=by rfl
theorem afq(x:Value):mi 316 (hX P 316) (.iface 316 x)=some (.tuple #[x,.bool true]):=by rfl
theorem afr(x:Value):mi 316 (hX P 316) (.iface 327 x)=some (.tuple #[agg (cQ P 316),.bool false]):=by rfl
theorem afs(x:Value):mi 316 (hX P 316) (.iface 320 x)=some (.tuple #[agg (cQ P 316),.bool false]):=by rfl
theorem aye(x:Value):mi 327 (hX P 327) (.iface 313 x)=some (.tuple #[agg (cQ P 327),.bool false]):=by rfl
theorem ayf(x:Value):mi 327 (hX P 327) (.iface 316 x)=some (.tuple #[agg (cQ P 327),.bool false]):=by rfl
theorem ayg(x:Value):mi 327 (hX P 327) (.iface 327 x)=some (.tuple #[x,.bool true]):=by rfl
theorem ayh(x:Value):mi 327 (hX P 327) (.iface 320 x)=some (.tuple #[agg (cQ P 327),.bool false]):=by rfl
theorem ayi(x:Value):mi 320 (hX P 320) (.iface 313 x)=some (.tuple #[agg (cQ P 320),.bool false]):=by rfl
theorem ayj(x:Value):mi 320 (hX P 320) (.iface 316 x)=some (.tuple #[agg (cQ P 320),.bool false]):=by rfl
theorem ayk(x:Value):mi 320 (hX P 320) (.iface 320 x)=some (.tuple #[x,.bool true]):=by rfl
theorem aft(x:Value):yN 316 (.iface 316 x)=some x:=by rfl
theorem ayl(x:Value):yN 320 (.iface 320 x)=some x:=by rfl
theorem LD:cQ P 327=[int 0,bq]:=by rfl
theorem aym(aO:w.aI.cD.length=32)(hO:jL H S F w B)(e:Int)(ag:∀aa,jL aa S F {w with bA:=e} B->ab undef aa):af (bm 1 (ai B.c 45) (int e) H) ab:=
 uI hO 3 (o:=0+45) rfl rfl (by simp_all[jB.jw,uH]) (Sj aO e) ag
theorem ayn(aQ:jQ S w B)(aR:vI S eC [v])(hO:jL H S F w B)(ag:∀aa dj X,B.fB dj->jQ (S++X) (w.jJ eC) dj->jL aa (S++X) F (w.jJ eC) dj->ab (.tuple [].toArray) aa):az P 144 [ai B.c 0,v] H ab:=by
 apply aqr;unfold PZ;have aO:=aQ.aI.cX;have gA:∀aa dj,B.fB dj->jQ S (w.jJ eC) dj->jL aa S F (w.jJ eC) dj->ab (.tuple [].toArray) aa:=fun aa dj h1 h2 aB=>ag aa dj [] h1 h2.app (by rw[append_nil];exact aB)
 refine c4 hO ?_;intro bw H hO
 replace hO:=Lz hO
 replace hO:jL H S (F++[(bw,⟨[ai B.c 0],true⟩)]) w B:=hO
 have h2:∀ {bX hS vN dj aV},((((hS++((F++[(bw,(⟨[ai B.c 0],true⟩:ay))])++vN))++jB.fC dj aV)++bX))[hS.length+(F.length+0)]?=some (bw,⟨[ai B.c 0],true⟩):=aK (aK (aA (aK (aA rfl))));have pJ:∀ {bX hS dj aV},((((hS++(F++[(bw,(⟨[ai B.c 0],true⟩:ay))]))++jB.fC dj aV)++bX))[hS.length+(F.length+0)]?=some (bw,⟨[ai B.c 0],true⟩):=aK (aK (aA (aA rfl)));refine aP hO _ pJ (v:=ai B.c 0) rfl (aU (jK hO 3 rfl (G9 aO) (ah fl ?_)));have ed:∀(e:Int) (dH:bN) (nB:jB) (br:ar) (S1:List (Nat×ay)) (X:List (Nat×ay)),S1=S++X->B.fB nB->jQ S1 dH nB->jL br S1 (F++[(bw,⟨[ai B.c 0],true⟩)]) dH nB->w.jJ eC={dH with bA:=e}->
   af (bm 1 (ai nB.c 45) (int e) br) fun u cB=>ab (.tuple [].toArray) cB:=by
  intro e dH nB br S1 X bE dP iH eh he;subst bE;refine aym iH.aI.cX eh e ?_;intro cB de;refine ag cB nB X dP ?_ ?_;rw[he];exact iH.bA e;rw[he];exact zV de
 refine bz (fun h=>?_) (fun h=>?_)
 -- EW waits
 have zY:w.dL=0:=by omega
 have pP:w.jJ eC={w with bA:=192}->af (ax (ai bw 0) H) fun Sl Sm=>
   ad (rv Sl) fun Sn=>ad (bF 45 Sn) fun t46=>af (bm 1 t46 (.int .i64 192) Sm) fun Sp Sq=>ab (.tuple [].toArray) Sq:=by
  intro he;exact aP hO _ pJ (v:=ai B.c 0) rfl (aU (ed 192 w B H S [] (by grind) .gl aQ hO he))
 cases eC with
 | rk a=>
  have aR:[v]=[.iface 313 (agg [int a])]:=aR;injection aR with aR _
  subst aR;exact ah (ayd _) (ah (show _=some (Value.bool false)from rfl) (et rfl (pP (by unfold bN.jJ;simp_all))))
 | body a bs=>
  obtain⟨dS,aR,_⟩:=aR;injection aR with aR _
  subst aR;exact ah (afr _) (ah (show _=some (Value.bool false)from rfl) (et rfl (pP (by unfold bN.jJ;simp_all))))
 | ed=>
  have aR:[v]=[.iface 320 (agg [])]:=aR;injection aR with aR _
  subst aR;exact ah (afs _) (ah (show _=some (Value.bool false)from rfl) (et rfl (pP (by unfold bN.jJ;simp_all))))
 | nn h8 gC=>
  obtain⟨aT,aR,aD,ok⟩:=aR;injection aR with aR _
  subst aR;refine ah (afq _) (ah (show _=some (Value.bool true)from rfl) (fg rfl (aP hO _ pJ (v:=ai B.c 0) rfl (aP hO _ pJ (v:=ai B.c 0) rfl (ah (aft _) ?_)))));have eh:=hO;refine ax7 aQ ok aD hO ?_;intro cB dj dP B4 hO;refine⟨gu eh _ pJ hO _ pJ rfl,?_⟩;refine aU ?_;rw[<- dP.c];exact ed (w.rm gC) (w.zX gC) dj cB S [] (by simp_all) dP B4 hO (by unfold bN.jJ;rw[if_pos zY];exact w.ax5 gC)
 have zY:¬w.dL=0:=by omega
 cases eC with
 | body a bs=>
  obtain⟨dS,aR,jh,nj⟩:=aR;injection aR with aR _
  subst aR;obtain⟨c1,eZ,eP,nk⟩:=jh.kz;refine ah (ayg _) (ah (show _=some (agg [int a,dS])from rfl) (ah (show _=some (Value.bool true)from rfl) ?_));rw[LD];refine c4 hO ?_;intro cM H hO;refine e7 hO (_+0) (aA rfl) rfl rfl (by rw[nk];rfl) ?_;intro H hO
  replace hO:=Lz hO.cb
  replace hO:jL H S ((F++[(bw,⟨[ai B.c 0],true⟩)])++[(cM,⟨[int a,dS],true⟩)]) w B:=hO
  refine fg rfl (aP hO _ h2 (v:=ai B.c 0) rfl (aP hO _ h2 (v:=ai B.c 0) rfl (fs hO (S.length+((F++[(bw,(⟨[ai B.c 0],true⟩:ay))]).length+0)) (aK (aK (aA (aA rfl)))) rfl (by omega) ?_)));have eh:=hO;refine ayc aQ jh nj hO ?_;intro cB dj X dP B4 hO;refine⟨gu eh _ h2 hO _ h2 rfl,?_⟩;refine aU ?_;rw[<- dP.c];exact ed (w.uJ a bs) (w.yx a bs) dj cB (S++X) X rfl dP B4 (zV hO) (by unfold bN.jJ;rw[if_neg zY];exact w.ax8 a bs)
 | rk a=>
  have aR:[v]=[.iface 313 (agg [int a])]:=aR;injection aR with aR _
  subst aR;refine ah (aye _) (ah (show _=some (agg (cQ P 327))from rfl) (ah (show _=some (Value.bool false)from rfl) ?_));rw[LD];refine c4 hO ?_;intro cM H hO;refine e7 hO (_+0) (aA rfl) rfl rfl rfl ?_;intro H hO;have hO:=hO.cb.left;exact et rfl (ah (ayi _) (ah (show _=some (Value.bool false)from rfl) (et rfl (aP hO _ pJ (v:=ai B.c 0) rfl (aU (ed 192 w B H S [] (by simp_all) .gl aQ hO (by unfold bN.jJ;simp_all)))))))
 | nn h8 gC=>
  obtain⟨aT,aR,aD,ok⟩:=aR;injection aR with aR _
  subst aR;refine ah (ayf _) (ah (show _=some (agg (cQ P 327))from rfl) (ah (show _=some (Value.bool false)from rfl) ?_));rw[LD];refine c4 hO ?_;intro cM H hO;refine e7 hO (_+0) (aA rfl) rfl rfl rfl ?_;intro H hO;have hO:=hO.cb.left;exact et rfl (ah (ayj _) (ah (show _=some (Value.bool false)from rfl) (et rfl (aP hO _ pJ (v:=ai B.c 0) rfl (aU (ed 192 w B H S [] (by simp_all) .gl aQ hO (by unfold bN.jJ;simp_all)))))))
 | ed=>
  have aR:[v]=[.iface 320 (agg [])]:=aR;injection aR with aR _
  subst aR;refine ah (ayh _) (ah (show _=some (agg (cQ P 327))from rfl) (ah (show _=some (Value.bool false)from rfl) ?_));rw[LD];refine c4 hO ?_;intro cM H hO;refine e7 hO (_+0) (aA rfl) rfl rfl rfl ?_;intro H hO;have hO:=hO.cb.left;refine et rfl (ah (ayk _) (ah (show _=some (Value.bool true)from rfl) (fg rfl (ah (ayl _) (aP hO _ pJ (v:=ai B.c 0) rfl (aU (jK hO 3 rfl (Sg aO) (aP hO _ pJ (v:=ai B.c 0) rfl (aU (ah b0 (jK hO 3 rfl (axM aO) (bV aQ.bY.bP (ah ez (bz (fun h1=>?_) (fun h1=>?_)))))))))))))));exact aP hO _ pJ (v:=ai B.c 0) rfl (aU (ed 192 w B H S [] (by simp_all) .gl aQ hO (by unfold bN.jJ;simp_all)));refine aP hO _ pJ (v:=ai B.c 0) rfl (aU (uI hO 3 (o:=0+44) rfl rfl (by simp_all[jB.jw,uH]) (Ly aO 3) ?_));intro H hO;have he:w.jJ .ed={w with dL:=3}:=by unfold bN.jJ;grind
  rw[he]at gA;exact gA H B .gl ⟨aQ.q,aQ.aI,aQ.bY,aQ.gi,aQ.rl,aQ.s,aQ.m,aQ.own,aQ.dv,aQ.wr⟩ (zV hO)
theorem pT.tail{R:gB}{l:List j5}(h:pT S R (eC::l)):∃a aJ,R.aJ=[a]::aJ/\vI S eC [a]/\Al (vI S) l aJ:=by
 have bp:=h.ks;generalize qc:R.aJ=ajc at bp;cases bp with
 | cons h1 h2=>
  rename_i b m;have:b.length=1:=h.mC.BW b (by simp_all)
  grind[length_eq_one_iff]
theorem ayo(h:aj H (((S++F)++hH)++bX)):aj H ((S++F)++(hH++bX)):=by rw[<- append_assoc];exact h
theorem ayp(aQ:jQ S w B)(fj:0<=w.aI.cU)(hm:w.m.hN 1000000)(hO:jL H S F w B)(ag:∀aa dj X,B.fB dj->jQ (S++X) w.step.2 dj->jL aa (S++X) F w.step.2 dj->ab (.bool w.step.1) aa):az P 66 [ai B.c 0] H ab:=by
 apply apo;unfold YW;have aO:=aQ.aI.cX;have gA:∀aa dj,B.fB dj->jQ S w.step.2 dj->jL aa S F w.step.2 dj->ab (.bool w.step.1) aa:=fun aa dj h1 h2 aB=>ag aa dj [] h1 h2.app (by rw[append_nil];exact aB)
 refine e6 (fun aF aa=>aF=[ai B.c 0,.bool (decide (w.bA≠0\/w.dL=4))]/\aa=H) ?_ ?_;refine aU (jK hO 3 rfl (Lx aO) (ah ik (bz (fun h=>?_) (fun h=>?_))));exact ah (hT h) (⟨by simp[h],rfl⟩);refine aU (jK hO 3 rfl (G9 aO) (ah fl (ah (ho h) (⟨?_,rfl⟩))));rw[decide_eq_decide.2 (show((w.dL:Int)=4)↔(w.bA≠0\/w.dL=4)from⟨fun h1=>.inr (by omega),fun h1=>by omega⟩)];rintro aF aa ⟨rfl,rfl⟩
 try simp only[cu,cv]
 unfold bN.step at ag gA;refine bz (fun h=>?_) (fun h=>?_);rw[if_pos h]at gA;exact gA _ B .gl aQ hO;rw[if_neg h]at gA ag;refine aU (jK hO 3 rfl (G9 aO) (ah fl (bz (fun h1=>?_) (fun h1=>?_))));rw[if_pos (by omega)]at gA;exact axV aQ hm hO gA;rw[if_neg (by omega)]at gA ag;refine aU (jK hO 3 rfl (G9 aO) (ah fl (bz (fun h2=>?_) (fun h2=>?_))));rw[if_pos (by omega)]at gA;exact axY aQ fj hm hO gA;rw[if_neg (by omega)]at gA ag;refine aU (jK hO 3 rfl (Sh aO) (bV aQ.gi.bP (ah kQ ?_)));cases ql:w.gi with
 | cons x ak=>rw[ql]at gA;exact fg (by simp) (ax3 aQ ql hm hO gA)
 | nil=>
  rw[ql]at gA ag;refine et (by simp) (aU (jK hO 3 rfl (v:=ai B.A.r 0) rfl ?_));have cf:=aQ.q;refine aeS (ae:=S++F) (i:=1) (j:=0) (ayo hO) rfl rfl (by decide) cf.mC ?_ ?_;intro he;have T4:w.q=[]:=by
   have:=cf.len
   grind
  rw[T4]at gA;exact ah jT (ah jU (ah jF (fg rfl (gA _ B .gl aQ hO))));intro a bA he cB bu x2 de;cases hwq:w.q with
  | nil=>rw[hwq]at cf;have:=cf.len;rw[he]at this;simp at this
  | cons eC l=>
   rw[hwq]at ag cf;obtain⟨cq,R0,xA,rP,kD⟩:=cf.tail;rw[he]at xA;injection xA with bb bt
   injection bb with bb _
   subst bb bt;refine ah jT (ah jU (ah jF (et rfl ?_)))
   replace de:jL cB S F {w with q:=l} {B with A:=B.A.dO bu bA}:=by show aj cB (((S++F)++LA (B.A.dO bu bA) B.l _ B.c _)++du B.L w.m);rw[append_assoc];exact de
   have B4:jQ S {w with q:=l} {B with A:=B.A.dO bu bA}:=⟨⟨x2,kD⟩,aQ.aI,aQ.bY,aQ.gi,aQ.rl,aQ.s,aQ.m,aQ.own,aQ.dv,aQ.wr⟩;refine ayn (B:={B with A:=B.A.dO bu bA}) B4 rP de ?_;intro iN ayq X dP afu lo;rw[ql]at afu lo;exact ag iN ayq X ⟨dP.r,dP.q,dP.n,dP.l,dP.c,dP.L⟩ afu lo
end J
namespace J
open Go Go.Ab
variable[cr:bW]
variable{H:ar}{ae bX:List (Nat×ay)}{ab:VH}{v:Value}{ao:List Value}{p l:Nat}{a dw i:Int}{s:fM}
def fM.jI(s:fM)(dw i:Int):Nat×Int×fM:=if i<0\/2<=i\/dw<1 then(0,101,s)else if s.ng≠0 then(0,161,s)else(s.gz+1,0,{s with dw:=dw,dc:=i,ng:=s.gz+1,gz:=s.gz+1})
theorem ayr(a b:Int)(n:Nat):(c9 P 189).f [(0,int a),(1,int b),(2,bQ .u64 n)]=some (agg [int a,int b,bQ .u64 n]):=by rfl
theorem ays(hg:s.gz<1000)(hO:aj H ((ae++[(l,⟨fp s p,true⟩)])++bX))(ag:∀aa,aj aa ((ae++[(l,⟨fp (s.jI dw i).2.2 p,true⟩)])++bX)->ab (.tuple [bQ .u64 (s.jI dw i).1,int (s.jI dw i).2.1].toArray) aa):az P 32 [ai l 0,int dw,int i] H ab:=by
 apply aoQ;unfold Yl;unfold fM.jI at ag;refine e6 (fun aF aa=>aF=[ai l 0,int dw,int i,.bool (decide (i<0\/2<=i\/dw<1))]/\aa=H) ?_ ?_;refine ah ez (bz (fun h=>?_) (fun h=>?_));exact ah (hT h) (ah ll (⟨by simp[h],rfl⟩));refine ah ss (ah (ho h) (bz (fun h1=>?_) (fun h1=>?_)));exact ah (hT h1) (⟨by grind,rfl⟩);refine ah ez (ah (ho h1) (⟨?_,rfl⟩))
 grind
 rintro aF aa ⟨rfl,rfl⟩
 try simp only[cu,cv]
 refine bz (fun h=>?_) (fun h=>?_);rw[if_pos h]at ag;exact ag _ hO;rw[if_neg h]at ag;refine aU (hG hO (ae.length+0) (aK (aA rfl)) (ao:=[int s.dw,int s.dc,bQ .u64 s.ng]) rfl rfl (by omega) (afa hO ?_));intro H hO;refine bz (fun h1=>?_) (fun h1=>?_);rw[if_pos h1]at ag;exact ag H hO;rw[if_neg h1]at ag;refine aU (jK hO 0 rfl (v:=bQ .u64 s.gz) rfl (ah (v:=bQ .u64 (s.gz+1)) ?_ ?_));rw[show(.int .u64 1:Value)=bQ .u64 1 from rfl,sy rfl];show some (bQ .u64 ((s.gz+1)%18446744073709551616))=_
 grind
 refine aU (uI hO 0 (o:=0+6) rfl rfl (show 6<7 by omega) rfl ?_);intro H hO;refine aU (jK hO 0 rfl (v:=bQ .u64 (s.gz+1)) rfl (ah (ayr _ _ _) (aU (o0 hO (ae.length+0) (aK (aA rfl)) rfl (show 0+0+3<=7 by omega) rfl ?_))));intro H hO;rw[set_append_left _ _ (by simp),Go.Ab.cb]at hO;exact aU (jK hO 0 rfl (v:=bQ .u64 (s.gz+1)) rfl (ag H hO))
theorem ayt(cG:Nat)(a b:Int):(c9 P 191).f [(1,ai cG 0),(2,agg [int a,int b])]=some (agg (fp ⟨0,0,0,0,a,b⟩ cG)):=by rfl
theorem ayu{cG:Nat}{a b:Int}(hO:aj H ae)(ag:∀aa l,aj aa (ae++[(l,⟨fp ⟨0,0,0,0,a,b⟩ cG,true⟩)])->ab (ai l 0) aa):az P 59 [ai cG 0,agg [int a,int b]] H ab:=by apply aph;unfold YP;rw[ri];refine c4 hO ?_;intro eX H hO;refine fs hO (ae.length+0) (aA rfl) (n:=2) rfl (by omega) (ah (ayt _ _ _) ?_);rw[ri];refine c4 hO ?_;intro l H hO;refine ag H l (hO.sub ?_);exact List.Sublist.append (sublist_append_left ae _) (List.Sublist.refl _)
theorem ayv(l r:Nat)(t:Nat)(i:Int):(c9 P 259).f [(0,ai l 0),(1,bQ .u64 t),(2,int i),(3,ai r 0)]=some (agg (iq l t i r cT bq 0 bq 0 0 0)):=by rfl
theorem ayw{r t:Nat}(hO:aj H ae)(ag:∀aa c,aj aa (ae++[(c,⟨iq l t i r cT bq 0 bq 0 0 0,true⟩)])->ab (ai c 0) aa):az P 82 [ai l 0,bQ .u64 t,int i,ai r 0] H ab:=by apply apF;unfold Zd;refine ah (ayv _ _ _ _) ?_;rw[ri];refine c4 hO ?_;intro c H hO;exact ag H c hO
def l4(afv:Nat)(dc:Int):bN:=⟨⟨5,dc,1,1,0,1⟩,1,dc,[],cT,0,[],0,0,0,⟨bG.cL 60 100,mb 0 [afv,afv],0,[]⟩⟩
theorem ayx(p:Nat):(au P .eql 36 true).f (ai p 0) (.pointer none)=some (.bool false):=by rfl
theorem ayy(p:Nat):(au P .eql 38 true).f (ai p 0) (.pointer none)=some (.bool false):=by rfl
end J
namespace J
open Go Go.Ab
variable[cr:bW]
variable{H:ar}{ae:List (Nat×ay)}{ab:VH}{v w x aT:Value}{b:List Int}{i p q n k f:Nat}{ao:List Value}{cE:List UInt8}{m:dm}{eb:Nat}{bx:Int}
theorem _root_.Go.Ab.il.Lr{size:Nat}(h:il size v n ao):eA v=true:=by rcases h with⟨rfl,_⟩|⟨p,rfl|rfl,_⟩<;>rfl
def Hc(b:List Int)(C i:Nat):List Int:=hr ((b.drop (i*C)).take C)
def oB(cE:List UInt8)(eb:Nat)(bx:Int)(b:List Int)(y:Nat):dm:=⟨cE,eb,b.length,bx,hr b,(List.range y).map (Hc b bx.toNat)⟩
def pf(cE:List UInt8)(eb:Nat)(bx:Int)(b:List Int):dm:=oB cE eb bx b (lY b.length bx).toNat
theorem Et{y:Nat}:(oB cE eb bx b y).bo.length=y:=by simp[oB]
theorem Sr{y:Nat}(hv:eb<18446744073709551616)(aD:-9223372036854775808<=bx/\bx<=9223372036854775807)(aE:b.length<=1000000)(bS:cE.length<=10000)(a8:y<=10000):(oB cE eb bx b y).b6:=by refine⟨pO,Ed,?_,?_,hv,⟨by show-9223372036854775808<=((b.length:Nat):Int);omega,by show((b.length:Nat):Int)<=_;omega⟩,aD,by grind[Et],bS⟩;intro x al;obtain⟨i,_,rfl⟩:=mem_map.1 al;rfl;intro x al;obtain⟨i,_,rfl⟩:=mem_map.1 al;exact Ed
theorem ayz(cE:List UInt8)(eb:Nat)(cU bx:Int)(cD:List Int)(aO:cD.length=32):(c9 P 55).f [(0,bl cE),(1,bQ .u64 eb),(2,int cU),(3,int bx),(4,agg (a1 cD))]=some (agg (bM ⟨cE,eb,cU,bx,cD,[]⟩ bq)):=by
 match cD,aO with
 | [a0,c1,c2,a3,a4,a5,kC,lW,nu,a9,Rh,Ri,Rj,Rk,Rl,Rm,Bu,Rn,Ro,Rp,a20,a21,Rq,Rr,Rs,Rt,Ru,Rv,Rw,Rx,Ry,Rz],_=>rfl
theorem afw:(c9 P 55).f []=some (agg (bM cT bq)):=by rfl
theorem ayA{m a:dm}(h1:m.cE=a.cE)(h2:m.eb=a.eb)(aB:m.cU=a.cU)(bk:m.bx=a.bx)(cj:m.cD=a.cD):bM m v=bM a v:=by simp_all[bM]
theorem ayB{size n:Nat}(h:il size v n ao):fE v=true:=by rcases h with⟨rfl,_⟩|⟨p,rfl|rfl,_⟩<;>rfl
theorem ayC(y:Nat):(oB cE eb bx b (y+1)).bo=(oB cE eb bx b y).bo++[Hc b bx.toNat y]:=by simp[oB,range_succ]
theorem ayD(hO:aj H ae)(hv:b3 ae v b)(an:cl b)(aE:b.length<=1000000)(GM:eb<18446744073709551616)(iD:-9223372036854775808<=bx/\bx<=9223372036854775807)(bS:cE.length<=10000)
  (gA:¬en (pf cE eb bx b)->∀aa,aj aa ae->ab (.tuple [agg (bM cT bq),int 131].toArray) aa)
  (sA:en (pf cE eb bx b)->∀aa aT,aj aa (ae++bB aT (fA (pf cE eb bx b).bo))->eY (bB aT (fA (pf cE eb bx b).bo)) aT (pf cE eb bx b).bo->ab (.tuple [agg (bM (pf cE eb bx b) aT),int 0].toArray) aa):
  az P 69 [bl cE,bQ .u64 eb,int bx,v] H ab:=by
 apply apt;unfold Y1;rw[yr];refine ja hO.z ?_;intro jV H hO
 replace hO:aj H (ae++[(jV,⟨bM cT bq,true⟩)]):=hO
 refine bV hv.bP (BO hO hv.app an (by omega) ?_);intro H hO;refine ah (ayz _ _ _ _ _ pO) (ja hO ?_);intro lK H hO;refine kq hO 1 rfl (by rfl) (el pO) (nf rfl) ?_;intro H hO;refine bV hv.bP (adT (by omega) (by omega) ?_);have y5:pf cE eb bx b=oB cE eb bx b (lY b.length bx).toNat:=rfl;have IH:0<=lY b.length bx:=Q9;generalize Ss:lY b.length bx=Q at*;obtain⟨N,rfl⟩:∃N:Nat,Q=N:=⟨Q.toNat,by omega⟩;rw[Int.toNat_natCast]at y5;rw[y5]at gA sA;refine ah kQ (bz (fun zQ=>?_) (fun zQ=>?_));refine ah afw (kq hO 0 rfl (by rfl) (by rfl) (by rfl) ?_);intro H hO;refine iQ hO 0 rfl (by rfl) (by omega) (gA ?_ H hO.left);intro U;have:=U.2.2.2.2.2.2.2.2.2
 grind[Et]
 have nT:N<=64:=by omega
 have GW:N=0\/∃C:Nat,bx=C/\0<C/\(N-1)*C<=b.length/\b.length<=N*C/\0<N:=by
  unfold lY at Ss;split at Ss;omega;right;rename_i da;refine⟨bx.toNat,by omega,by omega,?_⟩;have bb:(((b.length:Nat):Int)-1)/bx=(((b.length-1)/bx.toNat:Nat):Int):=by grind
  rw[bb]at Ss;have h1:=div_mul_le_self (b.length-1) bx.toNat;have h2:=lt_div_mul_add (a:=b.length-1) (b:=bx.toNat) (by omega);have aB:N-1=(b.length-1)/bx.toNat:=by grind
  have aDT:0<N:=by omega
  have bk:N*bx.toNat=(b.length-1)/bx.toNat*bx.toNat+bx.toNat:=by grind[Int.ofNat_inj]
  grind
 have afx:∀y,y<=N->(oB cE eb bx b y).b6:=fun y a8=>Sr GM iD aE bS (by omega)
 have St:∀(y:Nat) (z:Value),bM (oB cE eb bx b y) z=bM (oB cE eb bx b 0) z:=fun y z=>ayA rfl rfl rfl rfl rfl
 have aO:=(afx 0 (zero_le _)).cX
 replace hO:aj H ((ae++[(jV,⟨bM cT bq,true⟩),(lK,⟨bM (oB cE eb bx b 0) bq,true⟩)])++bB bq (fA (oB cE eb bx b 0).bo)):=hO.z
 refine aps (fun k aF aa=>∃(y:Nat) (aT:Value),y<=N/\k=N-y/\aF=[int bx,v,ai jV 0,int 0,ai lK 0,int N,int y]/\aj aa ((ae++[(jV,⟨bM cT bq,true⟩),(lK,⟨bM (oB cE eb bx b 0) aT,true⟩)])++bB aT (fA (oB cE eb bx b y).bo))/\il 32 aT y (fA (oB cE eb bx b y).bo)) _ _ ?_ N _ _ ⟨0,bq,by omega,by omega,rfl,hO,.nil⟩;rintro k aF H ⟨y,aT,a8,rfl,rfl,hO,zO⟩;unfold Y0
 try simp only[cu,cv]
 refine ah ez (bz (fun dy=>?_) (fun dy=>?_));have a8:y<N:=by omega
 obtain⟨C,rfl,j1,u5,p4,aDU⟩:=GW.resolve_left (by omega);have aDV:y*C<=(N-1)*C:=mul_le_mul_right C (by omega);have ayE:(y+1)*C=y*C+C:=succ_mul y C;refine ah (Ep (by omega) (by omega)) (bV hv.bP (e6 (fun aF aa=>aF=[int C,v,ai jV 0,int 0,ai lK 0,int N,int y,int ((y*C:Nat):Int),int ((min (y*C+C) b.length:Nat):Int)]/\H=aa) ?_ ?_));refine ah (mu (by omega) (by omega)) (ah ez (bz (fun h=>?_) (fun h=>?_)));have cj:y*C+C<=(N-1)*C:=by rw[<- ayE];exact mul_le_mul_right C (by omega)
 refine ah (jg (by omega) (by omega)) (⟨?_,rfl⟩);rw[show min (y*C+C) b.length=y*C+C by omega,Int.natCast_add,Int.natCast_mul];have dh:y=N-1:=by omega
 have cj:N*C=y*C+C:=by grind
 refine⟨?_,rfl⟩
 simp_all
 rintro aF aa ⟨rfl,rfl⟩
 try simp only[cu,cv]
 refine ah b0 (aP hO (ae.length+1) (aK (aA rfl)) (q8 aO) ?_);obtain⟨w,aM,xp⟩:=Lg hv (i:=y*C) (t:=min (y*C+C) b.length) (by omega) (by omega);refine ah aM ?_;have eh:=hO;refine BO hO (xp _ hv).app.app (cl.drop (cl.take an)) (by grind) ?_;intro H hO;refine⟨gu eh (ae.length+1) (aK (aA rfl)) hO (ae.length+1) (aK (aA rfl)) (yn (ayB zO)),?_⟩;have adx:hr ((b.take (min (y*C+C) b.length)).drop (y*C))=Hc b (C:Int).toNat y:=by
  unfold Hc;rw[Int.toNat_natCast]
  congr 1
  rw[drop_take];by_cases fP:y*C+C<=b.length
  simp_all
  grind[length_drop]
 rw[adx];have p8:(Hc b (C:Int).toNat y).length=32:=pO;refine gj hO (aeb _ p8 _) ?_;intro q H hO;refine DU hO zO (by rfl) (by omega) (lG _) (by omega) (by omega) ?_;intro nS H hO zP;rw[<- RA,<- ayC]at hO zP;refine ah b0 (fm hO (ae.length+1) (aK (aA rfl)) zP.Lr (by grind[el]) (ae5 aO) ?_);intro H hO;rw[set_append_left _ _ (by simp),Go.Ab.cb]at hO;exact ah (rY (b:=1) (by omega)) (⟨N-(y+1),by omega,y+1,nS,by omega,rfl,rfl,hO,zP⟩);have lI:y=N:=by omega
 subst lI;refine km rfl ?_
 try simp only[cu,cv]
 have BV:=afx y (Nat.le_refl _);have lT:eY (bB aT (fA (oB cE eb bx b y).bo)) aT (oB cE eb bx b y).bo:=aec (by rw[Et];exact zO);rw[<- St y aT]at hO;refine fs hO (ae.length+1) (aK (aA rfl)) (el BV.cX) (by omega) (Eh BV lT.app' hO ?_);intro H hO;refine ah jF (qf (fun U=>?_) (fun U=>?_));have U:¬en (oB cE eb bx b y):=by simp_all
 refine ah afw (e7 hO (ae.length+0) (aK (aA rfl)) (by rfl) (by rfl) (by rfl) ?_);intro H hO;rw[set_append_left _ _ (by simp),Go.Ab.cb]at hO;exact fs hO (ae.length+0) (aK (aA rfl)) (by rfl) (by omega) (gA U H hO.left.left);have U:en (oB cE eb bx b y):=by simpa using U
 refine fs hO (ae.length+1) (aK (aA rfl)) (el BV.cX) (by omega) (e7 hO (ae.length+0) (aK (aA rfl)) (by rfl) (el BV.cX) (nf lT.e5) ?_);intro H hO;rw[set_append_left _ _ (by simp),Go.Ab.cb]at hO;exact fs hO (ae.length+0) (aK (aA rfl)) (el BV.cX) (by omega) (sA U H aT (aj.cd hO) lT)
end J
namespace J
open Go Go.Ab
variable[cr:bW]
variable{d eQ:bG}{m:bn}{s:List Int}{l:List (List Int)}{i:Nat}
def r3(d:bG)(i:Nat):List Int:=(d.cells.getD i lq).wN
def eC(d:bG)(i:Nat):List Int:=(d.cells.getD i lq).fa
def wr(d:bG)(i:Nat):Int:=(d.cells.getD i lq).lp
def kk(l:List (Nat×List Int)):List Nat:=l.map (·.1)
theorem ayF{l:List (Nat×List Int)}{x:Nat×List Int}(h:x∈l):x.1∈kk l:=mem_map.2 ⟨x,h,rfl⟩
theorem afy{a b:List (Nat×List Int)}:kk (a++b)=kk a++kk b:=map_append
structure Eu (d:bG):Prop where
 su:(kk d.done).Nodup
 lt:∀x∈d.done,x.1<d.cells.length
 p:∀i w,(i,w)∈d.done->eC d i=w
 n:∀i,i∉kk d.done->eC d i=r3 d i
theorem ayG{l:List Cell}{i j:Nat}{c:Cell}(h:i<l.length):(l.set i c).getD j lq=if i=j then c else l.getD j lq:=by grind
structure fB (d eQ:bG):Prop where
 c:eQ.cells=d.cells
 w:eQ.done=d.done
 m:eQ.o7=d.o7
theorem fB.r3(h:fB d eQ):r3 eQ i=r3 d i:=by unfold J.r3;rw[h.c]
theorem fB.eC(h:fB d eQ):eC eQ i=eC d i:=by unfold J.eC;rw[h.c]
theorem fB.wr(h:fB d eQ):wr eQ i=wr d i:=by unfold J.wr;rw[h.c]
theorem fB.lV(h:fB d eQ)(aM:Eu d):Eu eQ:=⟨by rw[h.w];exact aM.su,by rw[h.w,h.c];exact aM.lt,by rw[h.w];intro i w aq;rw[h.eC];exact aM.p i w aq,by rw[h.w];intro i aq;rw[h.eC,h.r3];exact aM.n i aq⟩
structure afz (d:bG) (i:Nat) (s:List Int) (eQ:bG):Prop where
 len:eQ.cells.length=d.cells.length
 m:eQ.o7=d.o7
 w:eQ.done=d.done++[(i,s)]
 k:∀j,r3 eQ j=r3 d j
 s:∀j,eC eQ j=if i=j then s else eC d j
 qU:eQ.h7=false
 LG:d.iP<0->eQ.iP=d.iP
theorem afz.lV(h:afz d i s eQ)(aM:Eu d)(aq:i<d.cells.length)(aR:i∉kk d.done):Eu eQ:=by
 refine⟨?_,?_,?_,?_⟩
 ·rw[h.w,afy,nodup_append];refine⟨aM.su,by simp[kk],fun a bp b an=>?_⟩
  grind[kk]
 ·rw[h.w,h.len];intro x al;rcases mem_append.1 al with al|al
  ·exact aM.lt x al
  simp_all
 ·rw[h.w];intro j w bh;rw[h.s];rcases mem_append.1 bh with bh|bh
  ·rw[if_neg (fun e:i=j=>aR (by rw[e];exact ayF bh))];exact aM.p j w bh
  simp_all
 ·rw[h.w];intro j bh;rw[afy,mem_append,not_or]at bh;rw[h.s,h.k,if_neg (fun e=>bh.2 (by simp_all[kk]))];exact aM.n j bh.1
theorem ayH(aq:i<d.cells.length):d.gF (i:Int):=⟨by omega,by omega⟩
structure dY (d eQ:bG):Prop where
 s:fB d eQ
 dK:eQ.h7=true
 b:0<=d.iP
structure afA (d eQ:bG):Prop where
 len:eQ.cells.length=d.cells.length
 m:eQ.o7=d.o7
 w:eQ.done=[]
 k:∀j,r3 eQ j=eC d j
 s:∀j,eC eQ j=eC d j
 wr:∀j,wr eQ j=wr d j
 qU:eQ.h7=false
 LG:d.iP<0->eQ.iP=d.iP
theorem afA.lV(h:afA d eQ):Eu eQ:=⟨by rw[h.w];simp[kk],(by rw[h.w];simp_all),(by grind[w]),fun i _=>by rw[h.s,h.k]⟩
def ayI(old cL ayJ:List Int):Prop:=∃n,n<=64/\ayJ=cL.take n++old.drop n
structure afB (d eQ:bG):Prop where
 len:eQ.cells.length=d.cells.length
 m:eQ.o7=d.o7
 w:eQ.done=[]
 s:∀j,eC eQ j=r3 eQ j
 n:∀j,j∉kk d.done->r3 eQ j=r3 d j
 t:∀j w,(j,w)∈d.done->ayI (r3 d j) w (r3 eQ j)
 wr:∀j,wr eQ j=wr d j
 qU:eQ.h7=false
 LG:eQ.iP=-1
theorem afB.lV(h:afB d eQ):Eu eQ:=⟨by rw[h.w];simp[kk],(by rw[h.w];simp_all),(by grind[w]),fun i _=>h.s i⟩
end J
namespace J
open Go Go.Ab
variable[cr:bW]
variable{d:bG}{m:bn}{j:Nat}{A B:Nat}{b:Int}
def off(A:Nat)(b:Int):Nat:=if b=0 then 0 else A
def pg(A B:Nat)(b:Int):Nat:=if b=0 then A else B
structure nM (m:bn) (A B:Nat):Prop where
 ct:∃r,m.hq=(0,A)::(A,B)::r
 Su:A+B<=m.d.cells.length
abbrev k0(b:Int):Prop:=b=0\/b=1
theorem yy(h:nM m A B)(an:k0 b):m.gF b/\m.rT b=(off A b,pg A B b):=by
 obtain⟨r,e⟩:=h.ct;unfold bn.gF bn.rT;rw[e];rcases an with rfl|rfl
 exact⟨⟨by omega,by grind⟩,rfl⟩;exact⟨⟨by omega,by grind⟩,rfl⟩
theorem B5(h:nM m A B)(an:k0 b):m.size b=pg A B b:=by unfold bn.size;rw[if_pos (yy h an).1,(yy h an).2]
theorem Sv(h:nM m A B)(an:k0 b){y:Nat}(a8:y<pg A B b):off A b+y<m.d.cells.length:=by
 have:=h.Su
 grind[pg,off]
theorem Sw(h:nM m A B)(an:k0 b){y:Nat}(a8:y<pg A B b):m.fH b y=(((off A b+y:Nat):Int),0):=by unfold bn.fH;rw[if_neg (fun h2=>h2 (yy h an).1),(yy h an).2,if_neg (by omega)];rfl
theorem afC(bh:j<d.cells.length):(d.eT (j:Int)).1=eC d j:=by simp_all[bG.eT,ayH,bG.cell,eC]
theorem Hd(h:nM m A B)(an:k0 b){y:Nat}(a8:y<pg A B b):(m.eT b y).1=eC m.d (off A b+y):=by unfold bn.eT;rw[Sw h an a8,if_neg (by simp)];exact afC (Sv h an a8)
def eS(d:bG)(A B:Nat)(b:Int):List (List Int):=(List.range (pg A B b)).map fun y=>r3 d (off A b+y)
end J
