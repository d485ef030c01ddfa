/- texts of the pv, gd behind the oq -/
import Derived.Lib.RuneBytes
import Derived.Shelf.Unicode.CaseLaid
import Derived.Test.YtifflnhooaophaaGreatDoorUG
set_option linter.unusedVariables false
set_option linter.unusedSimpArgs false
set_option linter.unusedSectionVars false
set_option maxHeartbeats 4000000
set_option maxRecDepth 100000
namespace J
open Go Go.Ab
variable[cu:b0]
variable{H:au}{Γ:List (Nat×az)}{aa:VH}{v w x bb:Value}{aj bg b key ms:List Int}{n k:Nat}{e:Int}{l:List UInt8}{a1:List (List Int)}
theorem aeq(b:List Int):j9 b=(0,141)\/∃n:Nat,j9 b=((n:Int),0)/\36<=n/\n<=2304/\4<=b.length/\b.take 2=[66,85]/\n=hJ ((b.take 4).drop 2)+36:=by
 unfold j9
 grind
def eN(key b:List Int):df×Int×Int:=
 if(j9 b).2≠0\/(b.length:Int)<(j9 b).1 then(eW,0,141)
 else if oM key (b.take ((j9 b).1.toNat-32))≠(b.take (j9 b).1.toNat).drop ((j9 b).1.toNat-32)then(eW,0,142)
 else if(lZ ((b.take ((j9 b).1.toNat-32)).drop 4)).2≠0 then(eW,0,(lZ ((b.take ((j9 b).1.toNat-32)).drop 4)).2)
 else((lZ ((b.take ((j9 b).1.toNat-32)).drop 4)).1,(j9 b).1,0)
theorem aer(h:j9 b=(0,141)):eN key b=(eW,0,141):=by simp_all[eN]
theorem aes{n:Nat}(h:j9 b=((n:Int),0))(af:b.length<n):eN key b=(eW,0,141):=by simp_all[eN]
theorem RZ{n:Nat}(h:j9 b=((n:Int),0))(af:n<=b.length):eN key b=if oM key (b.take (n-32))≠(b.take n).drop (n-32)then(eW,0,142)
 else if(lZ ((b.take (n-32)).drop 4)).2≠0 then(eW,0,(lZ ((b.take (n-32)).drop 4)).2)
 else((lZ ((b.take (n-32)).drop 4)).1,(n:Int),0):=by
 simp_all[eN,if_neg]
theorem fR.nil:fR Γ bB []:=.inl ⟨rfl,rfl⟩
theorem ct.take{n:Nat}(h:ct b):ct (b.take n):=fun x ao=>h x (List.mem_of_mem_take ao)
theorem ct.drop{n:Nat}(h:ct b):ct (b.drop n):=fun x ao=>h x (List.mem_of_mem_drop ao)
theorem aet{b:List Int}(an:ct b)(aD:b.length<=9000):(lZ b).1.b1:=by
 unfold lZ zP;split
 ·have ad:∀(aj:List Int) (e:Int) (n:Nat),(j6 aj e n).length<=aj.length:=fun aj e n=>by grind[j6]
  have jX:ct (og b 0 96,qt b 0 96).1:=by
   show ct (og b 0 96);unfold og j1;split
   ·intro x h;cases h
   ·exact zO (zO an _ _) _ _
  have ny:lY (ia (uE b 0 96) (og b 0 96,qt b 0 96))<=65:=by grind[lY]
  refine ad8 jX ?_ (by omega) (mP (mP (mP (mP jX))))
  grind[uE,kd,Lo]
 ·exact BW
theorem avC(hO:al H Γ)(hv:cl Γ v key)(aM:cl Γ w b)(an:ct key)(mL:ct b)(aD:key.length<=1000000)(q0:b.length<=1000000)
  (ag:∀ab bb,al ab (Γ++b2 bb (hK (eN key b).1.a1))->fR (b2 bb (hK (eN key b).1.a1)) bb (eN key b).1.a1->aa (.tuple [agg (b4 (eN key b).1 bb),int (eN key b).2.1,int (eN key b).2.2].toArray) ab):wCall P 196 [v,w] H aa:=by
 apply aqB;unfold aaR;rw[Ez];refine j8 hO.z ?_;clear hO;intro cY H hO
 replace hO:al H (Γ++[(cY,⟨b4 eW bB,true⟩)]):=hO
 refine avw hO aM.bo mL q0 ?_;clear hO;intro H hO;refine ai km (ai kn (gb (fun aG ab=>aG=[v,w,ak cY 0,int (j9 b).1,.bool (decide ((j9 b).2≠0\/(b.length:Int)<(j9 b).1))]/\H=ab) ?_ ?_))
 ·refine ai jh (bT (fun h=>?_) (fun h=>?_))
  ·exact ai (ju h) (⟨by rw[decide_eq_true (show(j9 b).2≠0\/(b.length:Int)<(j9 b).1 from .inl h)],rfl⟩)
  ·exact cH aM.cG (ai gj (ai (kV h) (⟨by rw[decide_eq_decide.2 (show(b.length:Int)<(j9 b).1↔((j9 b).2≠0\/(b.length:Int)<(j9 b).1)from⟨.inr,fun af=>af.resolve_left h⟩)],rfl⟩)))
 rintro aG ab ⟨rfl,rfl⟩
 try simp only[cR,cS]
 refine bT (fun h=>?_) (fun h=>?_)
 ·have bJ:eN key b=(eW,0,141):=if_pos h;rw[bJ]at ag;refine ai Lr (lo hO 0 rfl (by rfl) (by rfl) (pg rfl) ?_);clear hO;intro H hO;exact jj hO 0 rfl (by rfl) (by omega) (ag H bB hO.left.z fR.nil)
 ·rcases aeq b with aR|⟨N,aR,bX,b7,g3,g4,g5⟩
  ·exact absurd (.inl (by rw[aR];simp)) h
  have ny:N<=b.length:=by
   have:¬(b.length:Int)<(j9 b).1:=fun a7=>h (.inr a7)
   rw[aR]at this;simpa using this
  rw[RZ aR ny]at ag;rw[aR];have zG:((N:Int)-32)=((N-32:Nat):Int):=by omega
  refine ai (v:=int ((N-32:Nat):Int)) (by rw[<- zG];exact nL (by omega) (by omega)) ?_;obtain⟨ev,bn,i1⟩:=BE aM (n:=N-32) (by omega);refine ai bn (ai (v:=int ((N-32:Nat):Int)) (by rw[<- zG];exact nL (by omega) (by omega)) ?_);obtain⟨ec,bF,j4⟩:=RX aM (i:=N-32) (t:=N) (by omega) ny;refine ai bF ?_;rw[Ry];refine j8 hO ?_;clear hO;intro Lz H hO
  replace hO:al H (Γ++[(cY,⟨b4 eW bB,true⟩),(Lz,⟨bj mO,true⟩)]):=hO
  refine ai (G1 hO 1 rfl (by simp[mO]) (by omega)) ?_;have s0:((b.take N).drop (N-32)).length=32:=by rw[List.length_drop,List.length_take];omega
  refine Rf hO (i:=Γ.length+1) (aC rfl) (bg:=(b.take N).drop (N-32)) ((j4 _ aM).bo) (by omega) (by simp[mO]) ?_;clear hO;intro H hO
  replace hO:=hO.cy
  rw[show(bj mO).take 0++(bj ((b.take N).drop (N-32))++(bj mO).drop (0+((b.take N).drop (N-32)).length))=bj ((b.take N).drop (N-32)) by rw[List.drop_of_length_le (l:=bj mO) (by rw[s0];simp[mO])];simp]at hO
  replace hO:al H (Γ++[(cY,⟨b4 eW bB,true⟩),(Lz,⟨bj ((b.take N).drop (N-32)),true⟩)]):=hO
  have oa:=i1 _ aM;have avD:Lz<H.next:=hO.lt (Lz,⟨bj ((b.take N).drop (N-32)),true⟩) (by simp);obtain⟨dm,e8,eJ,aeu⟩:=oa.lC;have XS:ct ((b.take N).drop (N-32)):=ct.drop (ct.take mL);have uj:ct ((b.take (N-32)).drop 4):=ct.drop (ct.take mL);have nF:((b.take (N-32)).drop 4).length<=9000:=by rw[List.length_drop,List.length_take];omega
  have xx:(b.take (N-32)).length=N-32:=by rw[List.length_take];omega
  have avE:ct (b.take (N-32)):=ct.take mL;obtain⟨v3,ey,nt⟩:=KS oa (n:=4) (by omega)
  replace nt:=nt _ oa
  generalize (b.take N).drop (N-32)=tail at*;generalize (b.take (N-32)).drop 4=inner at*;generalize b.take (N-32)=said at*;refine ih hO (by rw[aeu];exact ack _ _ _ _) ?_;rw[<- aeu];intro ca cD dd;refine aul (x:=ev) (ms:=said) dd (hv.bo.bo) (aC (k:=0) rfl) (oa.bo.bo) an avE (by omega) (by omega) ?_;intro iM kC;refine jM kC (Γ.length+1) (aS (aC rfl)) (show _=bj tail from by rw[List.drop_zero];exact List.take_of_length_le (by simp[s0])) (by simp[s0]) (by omega) (⟨ha dd (Γ.length+1) (aS (aC rfl)) kC (Γ.length+1) (aS (aC rfl)) (zB _),ts avD,?_⟩);clear hO dd;refine auo Ly s0 aem XS kC ?_;clear kC;intro H hO
  replace hO:=hO.left
  refine ai jt ?_;by_cases aV:oM key said=tail
  ·rw[decide_eq_true aV];refine eX rfl ?_;rw[if_neg (fun h=>h aV)]at ag;refine ai ey (au9 hO nt.bo uj nF ?_);clear hO;intro H lh hO lQ;refine ai km (ai kn ?_);have avF:=aet uj nF;have LA:=avF.dR;rcases aek inner with eu|eu
   ·rw[if_neg (fun h=>h eu)]at ag;simp only at ag;rw[eu];generalize (lZ inner).1=e0 at*;have qK:eP lh=true:=lQ.gd;refine dT hO ?_;clear hO;intro avG H hO;refine gl hO (_+0) (aC rfl) (by rfl) (e1 LA) (pg qK) ?_;clear hO;intro H hO
    replace hO:=hO.cy
    refine ai jh (tb (by omega) (hi hO (_+0) (aC rfl) (e1 LA) (by omega) (gl hO (Γ.length+0) (aS (aS (aC rfl))) (by rfl) (e1 LA) (pg qK) ?_)));clear hO;intro H hO;rw[List.set_append_left _ _ (by simp),List.set_append_left _ _ (by simp),Go.Ab.cy]at hO;exact hi hO (Γ.length+0) (aS (aS (aC rfl))) (e1 LA) (by omega) (ag H lh (al.cf hO.left) lQ)
   ·rw[eu,if_pos (by simp)]at ag;rw[eu]at hO;rw[eu];refine dT hO ?_;clear hO;intro avG H hO;refine gl hO (_+0) (aC rfl) (by rfl) (by rfl) (pg (by rw[eu]at lQ;exact lQ.gd)) ?_;clear hO;intro H hO;refine ai jh (nK (by decide) (ai Lr ?_))
    replace hO:=hO.cy.left.left
    refine lo hO 0 rfl (by rfl) (by rfl) (pg rfl) ?_;clear hO;intro H hO;exact jj hO 0 rfl (by rfl) (by omega) (ag H bB hO.left.z fR.nil)
  ·rw[decide_eq_false aV];refine fU rfl ?_;rw[if_pos aV]at ag;refine ai Lr (lo hO 0 rfl (by rfl) (by rfl) (pg rfl) ?_);clear hO;intro H hO;exact jj hO 0 rfl (by rfl) (by omega) (ag H bB hO.left.z fR.nil)
end J
namespace J
open Go Go.Ab
variable[cu:b0]
variable{b key r:List Int}{e:Int}{m:df}
theorem B0(ok:m.b1)(h:eB m):(iW key m).length=(nT m).length+32/\(iW key m).length<=2228/\84<=(iW key m).length/\(nT m).length=(qq m).length+4:=by grind[aeo,Lx,iW,Ly]
theorem aev:(nT m++r).take 2=[66,85]/\((nT m++r).take 4).drop 2=fq 2 (qq m).length/\4<=(nT m++r).length/\(nT m).drop 4=qq m:=by simp_all[nT,auV]
theorem aew(ok:m.b1)(h:eB m)(r:List Int):j9 (nT m++r)=(((iW key m).length:Int),0):=by
 obtain⟨ad,af,ax,aO⟩:=aev (m:=m) (r:=r);obtain⟨fj,fl,iJ,ng⟩:=B0 (key:=key) ok h;obtain⟨fk,dG,s3⟩:=Lx ok h;unfold j9;rw[ad,af,Lt 2 _ (by omega),if_neg (by simp_all),if_neg (by omega)]
 grind
theorem aex(ok:m.b1)(h:eB m)(r:List Int):eN key (iW key m++r)=(m,((iW key m).length:Int),0):=by
 obtain⟨ad,af,ax,aO⟩:=aev (m:=m) (r:=oM key (nT m)++r);obtain⟨fj,fl,iJ,ng⟩:=B0 (key:=key) ok h;have e:iW key m++r=nT m++(oM key (nT m)++r):=by simp[iW]
 have aD:j9 (iW key m++r)=(((iW key m).length:Int),0):=by grind[aew]
 rw[RZ aD (by simp)];have a8:(iW key m++r).take ((iW key m).length-32)=nT m:=by simp_all
 have dL:((iW key m++r).take (iW key m).length).drop ((iW key m).length-32)=oM key (nT m):=by grind[iW]
 simp_all[avo]
theorem avH(ok:m.b1)(h:eB m){t:Nat}(ht:t<(iW key m).length):eN key ((iW key m).take t)=(eW,0,141):=by
 by_cases aO:t<4
 ·refine aer ?_;unfold j9
  grind
 ·have e:((iW key m).take t).take 4=(iW key m).take 4:=by grind
  have bF:((iW key m).take t).take 2=(iW key m).take 2:=by grind
  have aD:=aew (key:=key) ok h (oM key (nT m));have q0:j9 ((iW key m).take t)=j9 (iW key m):=by
   unfold j9
   grind
  grind[aes,iW]
theorem aey{key b:List Int}(an:ct b)(aD:b.length<=1000000):((eN key b).2.2=0/\eB (eN key b).1/\(eN key b).1.b1/\(eN key b).2.1=((iW key (eN key b).1).length:Int)/\(iW key (eN key b).1).length<=b.length/\b.take (iW key (eN key b).1).length=iW key (eN key b).1)\/
  ((eN key b).1=eW/\(eN key b).2.1=0/\((eN key b).2.2=141\/(eN key b).2.2=142\/(eN key b).2.2=131)):=by
 rcases aeq b with aR|⟨N,aR,bX,b7,g3,g4,g5⟩
 ·simp_all[aer]
 by_cases ny:b.length<N
 ·grind[aes]
 rw[RZ aR (by omega)];by_cases aV:oM key (b.take (N-32))≠(b.take N).drop (N-32)
 ·simp_all
 rw[if_neg aV];have uj:ct ((b.take (N-32)).drop 4):=ct.drop (ct.take an);have nF:((b.take (N-32)).drop 4).length<=9000:=by grind
 have avI:((b.take (N-32)).drop 4).length=N-36:=by grind
 rcases aek ((b.take (N-32)).drop 4)with eu|eu
 ·rw[if_neg (fun h=>h eu)];left;have fC:=aet uj nF;obtain⟨dK,bI⟩:=avm uj (m:=(lZ ((b.take (N-32)).drop 4)).1) (Prod.ext rfl eu);simp only;generalize (lZ ((b.take (N-32)).drop 4)).1=e0 at*;have hA:nT e0=b.take (N-32):=by
   unfold nT;rw[bI,avI];have bn:fq 2 (N-36)=(b.take 4).drop 2:=by
    have bl:N-36=hJ ((b.take 4).drop 2):=by omega
    rw[bl];have:=RV ((b.take 4).drop 2) (ct.drop (ct.take an))
    simp_all
   rw[bn,<- g4];have bF:b.take 2++(b.take 4).drop 2=b.take 4:=by
    conv=>rhs;rw[<- List.take_append_drop 2 (b.take 4)]
    grind
   grind[List.take_append_drop]
  have ck:iW key e0=b.take N:=by
   unfold iW;rw[hA,Classical.not_not.1 aV]
   conv=>rhs;rw[<- List.take_append_drop (N-32) (b.take N)]
   grind
  simp_all
 simp_all
end J
namespace J
open Go Go.Ab
variable[cu:b0]
variable{x:Value}{b key:List Int}{m a:df}{a1:List (List Int)}
structure df.aez (m:df):Prop where
 dR:m.cq.length=32
 Rr:ct m.cq
 dS:∀x∈m.a1,x.length=32
 fV:∀x∈m.a1,ct x
 dN:m.dN<18446744073709551616
 c0:-9223372036854775808<=m.c0/\m.c0<=9223372036854775807
 aE:-9223372036854775808<=m.aE/\m.aE<=9223372036854775807
theorem df.aez.ok(h:m.aez)(ad:m.cz.length<=300)(af:m.a1.length<=100):m.b1:=⟨h.dR,h.Rr,h.dS,h.fV,h.dN,h.c0,h.aE,by omega,by omega⟩
theorem avJ{a b c:Value}:eA 0 (.tuple [a,b,c].toArray)=some a:=rfl
theorem avK{a b c:Value}:eA 1 (.tuple [a,b,c].toArray)=some b:=rfl
theorem avL{a b c:Value}:eA 2 (.tuple [a,b,c].toArray)=some c:=rfl
theorem aeA(an:ct b)(aD:b.length<=1000000):(eN key b).1.b1:=by
 rcases aey (key:=key) an aD with h|h
 ·exact h.2.2.1
 ·rw[h.1];exact BW
end J
namespace J
open Go Go.Ab
variable[cu:b0]
end J
namespace J
open Go Go.Ab
variable[cu:b0]
end J
namespace J
open Go Go.Ab
variable[cu:b0]
variable{x:Value}{b:List Int}{n k:Nat}{e:Int}
def tw(n:Int):Prop:=0<=n/\n<=1114111/\(n<55296\/57343<n)
def aeB(x:Go.Lib.CaseRow):Bool:=
 if x.delta 1>1114111 then decide ((x.2.1:Int)+1<=1114111/\((x.2.1:Int)+1<55296\/57343<(x.1:Int)))
 else decide (0<=(x.1:Int)+x.delta 1/\(x.2.1:Int)+x.delta 1<=1114111/\((x.2.1:Int)+x.delta 1<55296\/57343<(x.1:Int)+x.delta 1))
theorem avM:Go.Lib.caseT.all aeB=true:=by kernel_rfl
theorem R0(T:Array Go.Lib.CaseRow)(r:Int):∀(f eZ aq i:Nat),Go.Lib.lookupIdx T r f eZ aq=some i->aq<=T.size->i<T.size/\((T.getD i (0,0,0,0,0)).1:Int)<=r/\r<=((T.getD i (0,0,0,0,0)).2.1:Int)
 | 0,eZ,aq,i,h,_=>by cases h
 | f+1,eZ,aq,i,h,hh=>by
  unfold Go.Lib.lookupIdx at h;split at h
  ·split at h
   ·rename_i ad af;obtain rfl:=Option.some.inj h;exact⟨by omega,af⟩
   ·split at h
    ·exact R0 T r f _ _ i h (by omega)
    ·exact R0 T r f _ _ i h hh
  ·cases h
theorem aeC{n:Int}(h:tw n):tw (Go.Lib.toLowerU n):=by
 unfold Go.Lib.toLowerU;split
 ·split
  ·unfold tw at *;omega
  ·exact h
 ·rename_i ad;unfold Go.Lib.toR Go.Lib.lookupGo;cases aD:Go.Lib.lookupIdx Go.Lib.caseA n (Go.Lib.caseA.size+1) 0 Go.Lib.caseA.size with
  | none=>exact h
  | some i=>
   show tw (Go.Lib.convertR 1 n (Go.Lib.caseA.getD i (0,0,0,0,0)));obtain⟨aq,af,ax⟩:=R0 _ _ _ _ _ _ aD (Nat.le_refl _);have hg:=List.all_eq_true.1 avM (Go.Lib.caseA[i]'aq) (by have:=Array.getElem_mem aq;rw[<- Array.mem_toList_iff]at this;exact this);have e:Go.Lib.caseA.getD i (0,0,0,0,0)=Go.Lib.caseA[i]'aq:=by simp_all
   rw[e]at af ax⊢;generalize Go.Lib.caseA[i]'aq=y at*;unfold aeB at hg;unfold Go.Lib.convertR tw at*
   grind
def R1(n:Nat):Nat:=(Go.Lib.toLowerU n).toNat
theorem aeD{n:Nat}(h:tw n):Go.Lib.toLowerU n=R1 n:=(Int.toNat_of_nonneg (aeC h).1).symm
theorem avN{n:Nat}(h:tw n):tw (R1 n):=by rw[<- aeD h];exact aeC h
def R2(n:Nat):List Int:=
 if n<128 then [((n:Nat):Int)]
 else if n<2048 then [((192+n/64:Nat):Int),((128+n%64:Nat):Int)]
 else if n<65536 then [((224+n/4096:Nat):Int),((128+n/64%64:Nat):Int),((128+n%64:Nat):Int)]
 else [((240+n/262144:Nat):Int),((128+n/4096%64:Nat):Int),((128+n/64%64:Nat):Int),((128+n%64:Nat):Int)]
theorem avO{n:Nat}(h:tw n):Go.Lib.encodeRune n=hH (R2 n):=by
 obtain⟨aR,ad,af⟩:=h
 grind[Go.Lib.encodeRune,hH,R2,Go.Lib.encodeRuneZ_one,Go.Lib.encodeRuneZ_two,Go.Lib.encodeRuneZ_three,Go.Lib.encodeRuneZ_four]
theorem Hf{t:TypeId}{c:Bool}{a b:Nat}(an:0<b):(ay P .rem t c).f (int a) (int b)=some (int ((a%b:Nat):Int)):=xU (k:=.i64) an
theorem ED{t:TypeId}{c:Bool}{a b:Nat}(h:a+b<=9223372036854775807):(ay P .add t c).f (int a) (int b)=some (int ((a+b:Nat):Int)):=by grind[mn]
end J
namespace J
open Go Go.Ab
variable[cu:b0]
variable{H:au}{Γ:List (Nat×az)}{aa:VH}{v bb:Value}{b:List Int}{k:Nat}{l m:List UInt8}{ds:List (List UInt8)}
theorem R3{size hd nx:Nat}{r:Nat×Nat}(h:q3 l size hd nx=some r):tw r.1:=by
 unfold q3 at h;split at h
 ·cases h
 ·split at h
  ·split at h
   ·cases h
   ·cases h;unfold tw;omega
  ·cases h
theorem avP{r:Nat×Nat}(h:fy l=some r):tw r.1:=by
 have:=tu l 0;unfold fy at h;split at h
 ·cases h;unfold tw;omega
 split at h
 ·exact R3 h
 split at h
 ·exact R3 h
 split at h
 ·exact R3 h
 ·cases h
def nO(s:List UInt8):List UInt8:=match fy s with
 | none=>s.take 1
 | some r=>hH (R2 (R1 r.1))
def ld(ds:List (List UInt8)):List UInt8:=ds.flatMap nO
def mx(l:List UInt8):List UInt8:=ld (sD l)
theorem avQ(l:List UInt8)(bh:Nat)(bM:bh<l.length):(Seal.Gz (jH l) bh=nO (l.drop bh))/\(Utf8.decode (jH l) bh).2=pQ (l.drop bh):=by
 refine⟨?_,(adN l bh 0 bM).2⟩;have dj:l.drop bh≠[]:=by simp_all
 have ao:(jH l).extract bh (jH l).size=jH (l.drop bh):=by
  apply ByteArray.ext
  simp_all[zK,List.take_of_length_le]
 have ht:=Go.Lib.tail_decode (jH l) bh 0;rw[ao,Nat.add_zero]at ht;obtain⟨kB,jg⟩:=adL dj;have DU:Go.Lib.decodeGo (jH (l.drop bh))=Utf8.decode (jH (l.drop bh)) 0:=by unfold Go.Lib.decodeGo;rw[if_neg (by grind[zK])]
 have hg:[(jH l).get! bh]=(l.drop bh).take 1:=by
  have ad:(jH l).get! bh=l[bh]:=by
   show(l.toArray)[bh]! = _
   simp_all
  grind[List.drop_eq_getElem_cons]
 unfold Seal.Gz Seal.zt;rw[ao,DU,<- ht];cases bJ:fy (l.drop bh)with
 | none=>
  rw[kB bJ]
  simp_all[nO]
 | some r=>
  rw[jg r bJ];have auP:=adM bJ;have aCw:=avP bJ;rw[decide_eq_false (show¬((r.1:Int)=65533/\r.2=1) by omega),if_neg (by simp)]
  simp_all[nO,aeD,avO,avN]
theorem aeE(l:List UInt8):∀(b bh:Nat),bh<=l.length->Seal.vE (jH l) b bh=ld (sC b (l.drop bh))
 | 0,bh,_=>rfl
 | b+1,bh,bM=>by
  unfold Seal.vE sC;by_cases h:bh<l.length
  ·obtain⟨ad,af⟩:=avQ l bh h;have dj:l.drop bh≠[]:=by simp_all
   have aM:=Lk dj;rw[List.length_drop]at aM;rw[if_pos (show bh<(jH l).size from h),if_neg dj,ad,af,aeE l b (bh+pQ (l.drop bh)) (by omega),List.drop_drop];rfl
  ·have Rq:l.drop bh=[]:=List.drop_of_length_le (by omega);rw[if_neg (show¬bh<(jH l).size from h),if_pos Rq];rfl
theorem avR(l:List UInt8):Seal.zu (jH l)=jH (mx l):=by have:=aeE l l.length 0 (Nat.zero_le _);rw[List.drop_zero]at this;show(⟨(Seal.vE (jH l) l.length 0).toArray⟩:ByteArray)=_;rw[this];rfl
theorem LB(aD:l.length<=1000000)(ag:aa (bZ (mx l)) H):wCall P 122 [bZ l] H aa:=by refine aoq (s:=jH l) (by rw[zK];omega) ?_;rw[avR];exact ag
theorem avS(aD:l.length<=1000000)(aV:m.length<=1000000)(ag:aa (.bool (mx l==mx m)) H):wCall P 233 [bZ l,bZ m] H aa:=by apply aq7;unfold abv;exact LB aD (LB aV (ai (show _=some (.bool (mx l==mx m))from rfl) ag))
structure pT where
 cz:List UInt8
 c6:Nat
 xI:Int
def rO(t:pT):List Value:=[bZ t.cz,bS .u64 t.c6,int t.xI]
def oN(m:df)(t:pT):Int:=if¬eB m then 131 else if mx m.cz≠mx t.cz then 143 else if m.dN<t.c6 then 144 else if m.c0>t.xI then 145 else 0
theorem aeF{t:pT}:dp (agg (rO t))=rO t:=rfl
theorem avT{k:IntKind}{t:TypeId}{c:Bool}{a b:Nat}:(ay P .lss t c).f (bS k a) (bS k b)=some (.bool (decide (a<b))):=by simp_all[gj]
theorem avU{m:df}{t:pT}(ok:m.b1)(aA:fR Γ bb m.a1)(ht:t.cz.length<=1000000)(hO:al H Γ)(ag:∀ab,al ab Γ->aa (int (oN m t)) ab):wCall P 197 [agg (b4 m bb),agg (rO t)] H aa:=by
 apply aqC;unfold aaS;have uC:=uB (bb:=bb) ok.dR;have nF:=ok.Lm;unfold oN at ag;rw[BU,aeF];refine j8 hO.z ?_;clear hO;intro dK H hO;refine j8 hO ?_;clear hO;intro bI H hO
 replace hO:al H (Γ++[(dK,⟨b4 m bb,true⟩),(bI,⟨rO t,true⟩)]):=hO
 refine jj hO 0 rfl (e1 ok.dR) (by omega) (Ex ok aA.bo hO ?_);clear hO;intro H hO;refine ai jt (sk (fun h=>?_) (fun h=>?_))
 ·have h:¬eB m:=by grind
  rw[if_pos h]at ag;exact ag H hO.left
 have h:eB m:=by simpa using h
 rw[if_neg (by grind)]at ag;refine ai ed (cI hO 0 rfl (v:=bZ m.cz) rfl (ai ed (cI hO 1 rfl (v:=bZ t.cz) rfl (avS (by omega) ht (ai jt (sk (fun h=>?_) (fun h=>?_)))))))
 ·have h:mx m.cz≠mx t.cz:=by grind
  rw[if_pos h]at ag;exact ag H hO.left
 have h:¬mx m.cz≠mx t.cz:=by grind
 rw[if_neg h]at ag;refine ai ed (cI hO 0 rfl (v:=bS .u64 m.dN) rfl (ai ed (cI hO 1 rfl (v:=bS .u64 t.c6) rfl (ai avT (bT (fun h=>?_) (fun h=>?_))))))
 ·rw[if_pos h]at ag;exact ag H hO.left
 rw[if_neg h]at ag;refine ai ed (cI hO 0 rfl (v:=int m.c0) rfl (ai ed (cI hO 1 rfl (v:=int t.xI) rfl (ai sl (bT (fun h=>?_) (fun h=>?_))))))
 ·rw[if_pos h]at ag;exact ag H hO.left
 ·rw[if_neg (by omega)]at ag;exact ag H hO.left
end J
namespace J
open Go Go.Ab
variable[cu:b0]
end J
namespace J
open Go Go.Ab
variable[cu:b0]
end J
