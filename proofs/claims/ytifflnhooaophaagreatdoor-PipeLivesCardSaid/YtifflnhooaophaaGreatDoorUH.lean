/- texts of the nf, fh behind the mA -/
import Derived.Lib.RuneBytes
import Derived.Shelf.Unicode.CaseLaid
import Derived.Test.YtifflnhooaophaaGreatDoorUG
set_option linter.unusedVariables false
set_option linter.unusedSimpArgs false
set_option linter.unusedSectionVars false
set_option maxHeartbeats 4000000
set_option maxRecDepth 100000
open List Nat
namespace J
open Go Go.Ab
variable[cu:b0]
variable{H:au}{ae:List (Nat×ax)}{aa:VH}{v w x aZ:Value}{xs bh b key ms:List Int}{n k:Nat}{e:Int}{l:List UInt8}{aN:List (List Int)}
theorem agp(b:List Int):kE b=(0,141)\/∃n:Nat,kE b=((n:Int),0)/\36<=n/\n<=2304/\4<=b.length/\b.take 2=[66,85]/\n=im ((b.take 4).drop 2)+36:=by
 unfold kE
 grind
def e4(key b:List Int):da×Int×Int:=
 if(kE b).2≠0\/(b.length:Int)<(kE b).1 then(eY,0,141)
 else if po key (b.take ((kE b).1.toNat-32))≠(b.take (kE b).1.toNat).drop ((kE b).1.toNat-32)then(eY,0,142)
 else if(mv ((b.take ((kE b).1.toNat-32)).drop 4)).2≠0 then(eY,0,(mv ((b.take ((kE b).1.toNat-32)).drop 4)).2)
 else((mv ((b.take ((kE b).1.toNat-32)).drop 4)).1,(kE b).1,0)
theorem agq(h:kE b=(0,141)):e4 key b=(eY,0,141):=by simp_all[e4]
theorem agr{n:Nat}(h:kE b=((n:Int),0))(h2:b.length<n):e4 key b=(eY,0,141):=by simp_all[e4]
theorem Tx{n:Nat}(h:kE b=((n:Int),0))(h2:n<=b.length):e4 key b=if po key (b.take (n-32))≠(b.take n).drop (n-32)then(eY,0,142)
 else if(mv ((b.take (n-32)).drop 4)).2≠0 then(eY,0,(mv ((b.take (n-32)).drop 4)).2)
 else((mv ((b.take (n-32)).drop 4)).1,(n:Int),0):=by
 simp_all[e4,if_neg]
theorem e8.nil:e8 ae bu []:=.inl ⟨rfl,rfl⟩
theorem cE.take{n:Nat}(h:cE b):cE (b.take n):=fun x ao=>h x (mem_of_mem_take ao)
theorem cE.drop{n:Nat}(h:cE b):cE (b.drop n):=fun x ao=>h x (mem_of_mem_drop ao)
theorem ags{b:List Int}(ak:cE b)(aD:b.length<=9000):(mv b).1.b4:=by
 unfold mv Bu;split;have h1:∀(xs:List Int) (e:Int) (n:Nat),(kC xs e n).length<=xs.length:=fun xs e n=>by grind[kC]
 have jo:cE (oU b 0 96,rf b 0 96).1:=by show cE (oU b 0 96);unfold oU kr;split;intro x h;cases h;exact Bt (Bt ak _ _) _ _
 have nw:mu (iR (vS b 0 96) (oU b 0 96,rf b 0 96))<=65:=by grind[mu]
 refine af8 jo ?_ (by omega) (nv (nv (nv (nv jo))))
 grind[vS,kN,ML]
 exact Dn
theorem ax2(hO:aj H ae)(hv:RdB ae v key)(aM:RdB ae w b)(ak:cE key)(mH:cE b)(aD:key.length<=1000000)(q7:b.length<=1000000)
  (ah:∀ab aZ,aj ab (ae++bQ aZ (fV (e4 key b).1.aN))->e8 (bQ aZ (fV (e4 key b).1.aN)) aZ (e4 key b).1.aN->aa (.tuple [agg (bN (e4 key b).1 aZ),int (e4 key b).2.1,int (e4 key b).2.2].toArray) ab):ay P 196 [v,w] H aa:=by
 apply as3;unfold acU;rw[yp];refine j3 hO.z ?_;intro c1 H hO
 replace hO:aj H (ae++[(c1,⟨bN eY bu,true⟩)]):=hO
 refine axV hO aM.app mH q7 ?_;intro H hO;refine ag kT (ag kU (e3 (fun aA ab=>aA=[v,w,ai c1 0,int (kE b).1,.bool (decide ((kE b).2≠0\/(b.length:Int)<(kE b).1))]/\H=ab) ?_ ?_));refine ag ij (bF (fun h=>?_) (fun h=>?_));exact ag (gA h) (⟨by rw[decide_eq_true (show(kE b).2≠0\/(b.length:Int)<(kE b).1 from .inl h)],rfl⟩);exact bW aM.bO (ag fr (ag (gP h) (⟨by rw[decide_eq_decide.2 (show(b.length:Int)<(kE b).1↔((kE b).2≠0\/(b.length:Int)<(kE b).1)from⟨.inr,fun h2=>h2.resolve_left h⟩)],rfl⟩)));rintro aA ab ⟨rfl,rfl⟩
 try simp only[cj,ck]
 refine bF (fun h=>?_) (fun h=>?_);have bM:e4 key b=(eY,0,141):=if_pos h;rw[bM]at ah;refine ag MO (lr hO 0 rfl (by rfl) (by rfl) (nt rfl) ?_);intro H hO;exact jN hO 0 rfl (by rfl) (by omega) (ah H bu hO.left.z e8.nil);rcases agp b with aJ|⟨N,aJ,cg,cd,g3,g4,g5⟩
 exact absurd (.inl (by rw[aJ];simp)) h;have nw:N<=b.length:=by
  have:¬(b.length:Int)<(kE b).1:=fun aT=>h (.inr aT)
  rw[aJ]at this;simpa using this
 rw[Tx aJ nw]at ah;rw[aJ];have Bg:((N:Int)-32)=((N-32:Nat):Int):=by omega
 refine ag (v:=int ((N-32:Nat):Int)) (by rw[<- Bg];exact ob (by omega) (by omega)) ?_;obtain⟨ej,a7,i1⟩:=A8 aM (n:=N-32) (by omega);refine ag a7 (ag (v:=int ((N-32:Nat):Int)) (by rw[<- Bg];exact ob (by omega) (by omega)) ?_);obtain⟨ec,bt,k2⟩:=Tt aM (i:=N-32) (t:=N) (by omega) nw;refine ag bt ?_;rw[SU];refine j3 hO ?_;intro MW H hO
 replace hO:aj H (ae++[(c1,⟨bN eY bu,true⟩),(MW,⟨bd nu,true⟩)]):=hO
 refine ag (Iw hO 1 rfl (by simp[nu]) (by omega)) ?_;have ud:((b.take N).drop (N-32)).length=32:=by rw[length_drop,length_take];omega
 refine SB hO (i:=ae.length+1) (az rfl) (bh:=(b.take N).drop (N-32)) ((k2 _ aM).app) (by omega) (by simp[nu]) ?_;intro H hO
 replace hO:=hO.cD
 rw[show(bd nu).take 0++(bd ((b.take N).drop (N-32))++(bd nu).drop (0+((b.take N).drop (N-32)).length))=bd ((b.take N).drop (N-32)) by rw[drop_of_length_le (l:=bd nu) (by rw[ud];simp[nu])];simp]at hO
 replace hO:aj H (ae++[(c1,⟨bN eY bu,true⟩),(MW,⟨bd ((b.take N).drop (N-32)),true⟩)]):=hO
 have nL:=i1 _ aM;have ax3:MW<H.next:=hO.lt (MW,⟨bd ((b.take N).drop (N-32)),true⟩) (by simp);obtain⟨cU,fo,dZ,MX⟩:=nL.lk;have ZE:cE ((b.take N).drop (N-32)):=cE.drop (cE.take mH);have vz:cE ((b.take (N-32)).drop 4):=cE.drop (cE.take mH);have qb:((b.take (N-32)).drop 4).length<=9000:=by rw[length_drop,length_take];omega
 have wI:(b.take (N-32)).length=N-32:=by rw[length_take];omega
 have ax4:cE (b.take (N-32)):=cE.take mH;obtain⟨v3,ei,q6⟩:=Md nL (n:=4) (by omega)
 replace q6:=q6 _ nL
 generalize (b.take N).drop (N-32)=tail at*;generalize (b.take (N-32)).drop 4=inner at*;generalize b.take (N-32)=said at*;refine ik hO (by rw[MX];exact aen _ _ _ _) ?_;rw[<- MX];intro q2 cJ dF;refine awI (x:=ej) (ms:=said) dF (hv.app.app) (az (k:=0) rfl) (nL.app.app) ak ax4 (by omega) (by omega) ?_;intro jr l0;refine iH l0 (ae.length+1) (aL (az rfl)) (show _=bd tail from by rw[drop_zero];exact take_of_length_le (by simp[ud])) (by simp[ud]) (by omega) (⟨ho dF (ae.length+1) (aL (az rfl)) l0 (ae.length+1) (aL (az rfl)) (A9 _),uI ax3,?_⟩);refine awL MV ud Tu ZE l0 ?_;intro H hO
 replace hO:=hO.left
 refine ag ix ?_;by_cases hm:po key said=tail;rw[decide_eq_true hm];refine dP rfl ?_;rw[if_neg (fun h=>h hm)]at ah;refine ag ei (axy hO q6.app vz qb ?_);intro H j0 hO mj;refine ag kT (ag kU ?_);have ax5:=ags vz qb;have MY:=ax5.dh;rcases agm inner with dU|dU
 rw[if_neg (fun h=>h dU)]at ah;simp only at ah;rw[dU];generalize (mv inner).1=c4 at*;have rI:eL j0=true:=mj.fh;refine dH hO ?_;intro ax6 H hO;refine fT hO (_+0) (az rfl) (by rfl) (eS MY) (nt rI) ?_;intro H hO
 replace hO:=hO.cD
 refine ag ij (sF (by omega) (gh hO (_+0) (az rfl) (eS MY) (by omega) (fT hO (ae.length+0) (aL (aL (az rfl))) (by rfl) (eS MY) (nt rI) ?_)));intro H hO;rw[set_append_left _ _ (by simp),set_append_left _ _ (by simp),Go.Ab.cD]at hO;exact gh hO (ae.length+0) (aL (aL (az rfl))) (eS MY) (by omega) (ah H j0 (aj.ca hO.left) mj);rw[dU,if_pos (by simp)]at ah;rw[dU]at hO;rw[dU];refine dH hO ?_;intro ax6 H hO;refine fT hO (_+0) (az rfl) (by rfl) (by rfl) (nt (by rw[dU]at mj;exact mj.fh)) ?_;intro H hO;refine ag ij (oa (by decide) (ag MO ?_))
 replace hO:=hO.cD.left.left
 refine lr hO 0 rfl (by rfl) (by rfl) (nt rfl) ?_;intro H hO;exact jN hO 0 rfl (by rfl) (by omega) (ah H bu hO.left.z e8.nil);rw[decide_eq_false hm];refine eT rfl ?_;rw[if_pos hm]at ah;refine ag MO (lr hO 0 rfl (by rfl) (by rfl) (nt rfl) ?_);intro H hO;exact jN hO 0 rfl (by rfl) (by omega) (ah H bu hO.left.z e8.nil)
end J
namespace J
open Go Go.Ab
variable[cu:b0]
variable{b key r:List Int}{e:Int}{m:da}
theorem By(ok:m.b4)(h:eG m):(iZ key m).length=(om m).length+32/\(iZ key m).length<=2228/\84<=(iZ key m).length/\(om m).length=(rb m).length+4:=by grind[ago,MU,iZ,MV]
theorem agt:(om m++r).take 2=[66,85]/\((om m++r).take 4).drop 2=fO 2 (rb m).length/\4<=(om m++r).length/\(om m).drop 4=rb m:=by simp_all[om,axg]
theorem agu(ok:m.b4)(h:eG m)(r:List Int):kE (om m++r)=(((iZ key m).length:Int),0):=by
 obtain⟨h1,h2,h3,aG⟩:=agt (m:=m) (r:=r);obtain⟨b1,b2,gE,kJ⟩:=By (key:=key) ok h;obtain⟨fw,dV,qK⟩:=MU ok h;unfold kE;rw[h1,h2,MQ 2 _ (by omega),if_neg (by simp_all),if_neg (by omega)]
 grind
theorem agv(ok:m.b4)(h:eG m)(r:List Int):e4 key (iZ key m++r)=(m,((iZ key m).length:Int),0):=by
 obtain⟨h1,h2,h3,aG⟩:=agt (m:=m) (r:=po key (om m)++r);obtain⟨b1,b2,gE,kJ⟩:=By (key:=key) ok h;have e:iZ key m++r=om m++(po key (om m)++r):=by simp[iZ]
 have aD:kE (iZ key m++r)=(((iZ key m).length:Int),0):=by grind[agu]
 rw[Tx aD (by simp)];have a8:(iZ key m++r).take ((iZ key m).length-32)=om m:=by simp_all
 have dn:((iZ key m++r).take (iZ key m).length).drop ((iZ key m).length-32)=po key (om m):=by grind[iZ]
 simp_all[axN]
theorem ax7(ok:m.b4)(h:eG m){t:Nat}(ht:t<(iZ key m).length):e4 key ((iZ key m).take t)=(eY,0,141):=by
 by_cases aG:t<4;refine agq ?_;unfold kE
 grind
 have e:((iZ key m).take t).take 4=(iZ key m).take 4:=by grind
 have bt:((iZ key m).take t).take 2=(iZ key m).take 2:=by grind
 have aD:=agu (key:=key) ok h (po key (om m));have q7:kE ((iZ key m).take t)=kE (iZ key m):=by
  unfold kE
  grind
 grind[agr,iZ]
theorem agw{key b:List Int}(ak:cE b)(aD:b.length<=1000000):((e4 key b).2.2=0/\eG (e4 key b).1/\(e4 key b).1.b4/\(e4 key b).2.1=((iZ key (e4 key b).1).length:Int)/\(iZ key (e4 key b).1).length<=b.length/\b.take (iZ key (e4 key b).1).length=iZ key (e4 key b).1)\/
  ((e4 key b).1=eY/\(e4 key b).2.1=0/\((e4 key b).2.2=141\/(e4 key b).2.2=142\/(e4 key b).2.2=131)):=by
 rcases agp b with aJ|⟨N,aJ,cg,cd,g3,g4,g5⟩
 simp_all[agq]
 by_cases nw:b.length<N
 grind[agr]
 rw[Tx aJ (by omega)];by_cases hm:po key (b.take (N-32))≠(b.take N).drop (N-32)
 simp_all
 rw[if_neg hm];have vz:cE ((b.take (N-32)).drop 4):=cE.drop (cE.take ak);have qb:((b.take (N-32)).drop 4).length<=9000:=by grind
 have ax8:((b.take (N-32)).drop 4).length=N-36:=by grind
 rcases agm ((b.take (N-32)).drop 4)with dU|dU
 rw[if_neg (fun h=>h dU)];left;have fq:=ags vz qb;obtain⟨dx,bp⟩:=axL vz (m:=(mv ((b.take (N-32)).drop 4)).1) (Prod.ext rfl dU);simp only;generalize (mv ((b.take (N-32)).drop 4)).1=c4 at*;have hA:om c4=b.take (N-32):=by
  unfold om;rw[bp,ax8];have a7:fO 2 (N-36)=(b.take 4).drop 2:=by
   have a6:N-36=im ((b.take 4).drop 2):=by omega
   rw[a6];have:=Tq ((b.take 4).drop 2) (cE.drop (cE.take ak))
   simp_all
  rw[a7,<- g4];have bt:b.take 2++(b.take 4).drop 2=b.take 4:=by
   conv=>rhs;rw[<- take_append_drop 2 (b.take 4)]
   grind
  grind[take_append_drop]
 have b6:iZ key c4=b.take N:=by
  unfold iZ;rw[hA,Classical.not_not.1 hm]
  conv=>rhs;rw[<- take_append_drop (N-32) (b.take N)]
  grind
 simp_all
 simp_all
end J
namespace J
open Go Go.Ab
variable[cu:b0]
variable{x:Value}{b key:List Int}{m a:da}{aN:List (List Int)}
structure da.agx (m:da):Prop where
 dh:m.cn.length=32
 SL:cE m.cn
 ea:∀x∈m.aN,x.length=32
 gu:∀x∈m.aN,cE x
 cV:m.cV<18446744073709551616
 cT:-9223372036854775808<=m.cT/\m.cT<=9223372036854775807
 aF:-9223372036854775808<=m.aF/\m.aF<=9223372036854775807
theorem da.agx.ok(h:m.agx)(h1:m.cF.length<=300)(h2:m.aN.length<=100):m.b4:=⟨h.dh,h.SL,h.ea,h.gu,h.cV,h.cT,h.aF,by omega,by omega⟩
theorem ax9{a b c:Value}:eD 0 (.tuple [a,b,c].toArray)=some a:=rfl
theorem aya{a b c:Value}:eD 1 (.tuple [a,b,c].toArray)=some b:=rfl
theorem ayb{a b c:Value}:eD 2 (.tuple [a,b,c].toArray)=some c:=rfl
theorem agy(ak:cE b)(aD:b.length<=1000000):(e4 key b).1.b4:=by
 rcases agw (key:=key) ak aD with h|h
 exact h.2.2.1;rw[h.1];exact Dn
end J
namespace J
open Go Go.Ab
variable[cu:b0]
end J
namespace J
open Go Go.Ab
variable[cu:b0]
variable{v:Value}
theorem Dr{P:Program}{t:TypeId}{bb:Array Field}(ht:P.underlying t=some (.struct bb)){cN:List TypeId}{N:Nat}{c:List Value}{b:List (List Value)}(h:fS P (t::cN) N c b):fS P (bb.toList.map (·.type)++cN) N c b:=by
 cases h with
 | struct bf h=>rw[ht]at bf;cases bf;exact h
 | array bf _=>rw[ht]at bf;cases bf
 | int v bf _ _=>rw[ht]at bf;cases bf
 | bool v bf _=>rw[ht]at bf;cases bf
 | bS v bf _ _=>rw[ht]at bf;cases bf
 | lg bf _=>rw[ht]at bf;cases bf
 | aC len bf _ _ _ _=>rw[ht]at bf;cases bf
theorem Ty{P:Program}{t:TypeId}(ht:P.underlying t=some .string){cN:List TypeId}{N:Nat}{c:List Value}{b:List (List Value)}(h:fS P (t::cN) N c b):∃(l:List UInt8) (bV:List Value),c=bS l::bV/\fS P cN N bV b:=by
 cases h with
 | bS v bf _ h=>grind
 | array bf h=>simp_all
 | struct bf _=>simp_all
 | int v bf _ _=>simp_all
 | bool v bf _=>simp_all
 | lg bf _=>simp_all
 | aC len bf _ _ _ _=>simp_all
theorem MZ:P.underlying 22=some (.slice 5):=by rfl
end J
namespace J
open Go Go.Ab
variable[cu:b0]
variable{x:Value}{b:List Int}{n k:Nat}{e:Int}
def ps(n:Int):Prop:=0<=n/\n<=1114111/\(n<55296\/57343<n)
def agz(x:Go.Lib.CaseRow):Bool:=
 if x.delta 1>1114111 then decide ((x.2.1:Int)+1<=1114111/\((x.2.1:Int)+1<55296\/57343<(x.1:Int)))
 else decide (0<=(x.1:Int)+x.delta 1/\(x.2.1:Int)+x.delta 1<=1114111/\((x.2.1:Int)+x.delta 1<55296\/57343<(x.1:Int)+x.delta 1))
theorem ayc:Go.Lib.caseT.all agz=true:=by kernel_rfl
theorem Tz(T:Array Go.Lib.CaseRow)(r:Int):∀(f fm an i:Nat),Go.Lib.lookupIdx T r f fm an=some i->an<=T.size->i<T.size/\((T.getD i (0,0,0,0,0)).1:Int)<=r/\r<=((T.getD i (0,0,0,0,0)).2.1:Int)
 | 0,fm,an,i,h,_=>by cases h
 | f+1,fm,an,i,h,hh=>by unfold Go.Lib.lookupIdx at h;split at h;split at h;rename_i h1 h2;obtain rfl:=Option.some.inj h;exact⟨by omega,h2⟩;split at h;exact Tz T r f _ _ i h (by omega);exact Tz T r f _ _ i h hh;cases h
theorem agA{n:Int}(h:ps n):ps (Go.Lib.toLowerU n):=by
 unfold Go.Lib.toLowerU;split;split;unfold ps at *;omega;exact h;rename_i h1;unfold Go.Lib.toR Go.Lib.lookupGo;cases aD:Go.Lib.lookupIdx Go.Lib.caseA n (Go.Lib.caseA.size+1) 0 Go.Lib.caseA.size with
 | none=>exact h
 | some i=>
  show ps (Go.Lib.convertR 1 n (Go.Lib.caseA.getD i (0,0,0,0,0)));obtain⟨an,h2,h3⟩:=Tz _ _ _ _ _ _ aD (Nat.le_refl _);have hg:=all_eq_true.1 ayc (Go.Lib.caseA[i]'an) (by have:=Array.getElem_mem an;rw[<- Array.mem_toList_iff]at this;exact this);have e:Go.Lib.caseA.getD i (0,0,0,0,0)=Go.Lib.caseA[i]'an:=by simp_all
  rw[e]at h2 h3⊢;generalize Go.Lib.caseA[i]'an=y at*;unfold agz at hg;unfold Go.Lib.convertR ps at*
  grind
def TA(n:Nat):Nat:=(Go.Lib.toLowerU n).toNat
theorem agB{n:Nat}(h:ps n):Go.Lib.toLowerU n=TA n:=(Int.toNat_of_nonneg (agA h).1).symm
theorem ayd{n:Nat}(h:ps n):ps (TA n):=by rw[<- agB h];exact agA h
def TB(n:Nat):List Int:=
 if n<128 then [((n:Nat):Int)]
 else if n<2048 then [((192+n/64:Nat):Int),((128+n%64:Nat):Int)]
 else if n<65536 then [((224+n/4096:Nat):Int),((128+n/64%64:Nat):Int),((128+n%64:Nat):Int)]
 else [((240+n/262144:Nat):Int),((128+n/4096%64:Nat):Int),((128+n/64%64:Nat):Int),((128+n%64:Nat):Int)]
theorem aye{n:Nat}(h:ps n):Go.Lib.encodeRune n=il (TB n):=by
 obtain⟨aJ,h1,h2⟩:=h
 grind[Go.Lib.encodeRune,il,TB,Go.Lib.encodeRuneZ_one,Go.Lib.encodeRuneZ_two,Go.Lib.encodeRuneZ_three,Go.Lib.encodeRuneZ_four]
theorem uN{t:TypeId}{c:Bool}{a b:Nat}(ak:0<b):(ar P .rem t c).f (int a) (int b)=some (int ((a%b:Nat):Int)):=x8 (k:=.i64) ak
theorem yq{t:TypeId}{c:Bool}{a b:Nat}(h:a+b<=9223372036854775807):(ar P .add t c).f (int a) (int b)=some (int ((a+b:Nat):Int)):=by grind[jg]
end J
namespace J
open Go Go.Ab
variable[cu:b0]
variable{H:au}{ae:List (Nat×ax)}{aa:VH}{v aZ:Value}{b:List Int}{k:Nat}{l m:List UInt8}{ds:List (List UInt8)}
theorem TC{size hn nU:Nat}{r:Nat×Nat}(h:r8 l size hn nU=some r):ps r.1:=by unfold r8 at h;split at h;cases h;split at h;split at h;cases h;cases h;unfold ps;omega;cases h
theorem ayf{r:Nat×Nat}(h:fL l=some r):ps r.1:=by have:=uJ l 0;unfold fL at h;split at h;cases h;unfold ps;omega;split at h;exact TC h;split at h;exact TC h;split at h;exact TC h;cases h
def oe(s:List UInt8):List UInt8:=match fL s with
 | none=>s.take 1
 | some r=>il (TB (TA r.1))
def f4(ds:List (List UInt8)):List UInt8:=ds.flatMap oe
def kc(l:List UInt8):List UInt8:=f4 (tE l)
theorem ayg(l:List UInt8)(bc:Nat)(bJ:bc<l.length):(Seal.H4 (j4 l) bc=oe (l.drop bc))/\(Utf8.decode (j4 l) bc).2=qp (l.drop bc):=by
 refine⟨?_,(afN l bc 0 bJ).2⟩;have dC:l.drop bc≠[]:=by simp_all
 have ao:(j4 l).extract bc (j4 l).size=j4 (l.drop bc):=by
  apply ByteArray.ext
  simp_all[Bn,take_of_length_le]
 have ht:=Go.Lib.tail_decode (j4 l) bc 0;rw[ao,Nat.add_zero]at ht;obtain⟨d0,d1⟩:=afL dC;have iQ:Go.Lib.decodeGo (j4 (l.drop bc))=Utf8.decode (j4 (l.drop bc)) 0:=by unfold Go.Lib.decodeGo;rw[if_neg (by grind[Bn])]
 have hg:[(j4 l).get! bc]=(l.drop bc).take 1:=by
  have h1:(j4 l).get! bc=l[bc]:=by
   show(l.toArray)[bc]! = _
   simp_all
  grind[drop_eq_getElem_cons]
 unfold Seal.H4 Seal.A0;rw[ao,iQ,<- ht];cases bM:fL (l.drop bc)with
 | none=>
  rw[d0 bM]
  simp_all[oe]
 | some r=>
  rw[d1 r bM];have axa:=afM bM;have ayh:=ayf bM;rw[decide_eq_false (show¬((r.1:Int)=65533/\r.2=1) by omega),if_neg (by simp)]
  simp_all[oe,agB,aye,ayd]
theorem agC(l:List UInt8):∀(b bc:Nat),bc<=l.length->Seal.w6 (j4 l) b bc=f4 (tD b (l.drop bc))
 | 0,bc,_=>rfl
 | b+1,bc,bJ=>by
  unfold Seal.w6 tD;by_cases h:bc<l.length;obtain⟨h1,h2⟩:=ayg l bc h;have dC:l.drop bc≠[]:=by simp_all
  have aM:=MD dC;rw[length_drop]at aM;rw[if_pos (show bc<(j4 l).size from h),if_neg dC,h1,h2,agC l b (bc+qp (l.drop bc)) (by omega),drop_drop];rfl;have SK:l.drop bc=[]:=drop_of_length_le (by omega);rw[if_neg (show¬bc<(j4 l).size from h),if_pos SK];rfl
theorem ayi(l:List UInt8):Seal.A1 (j4 l)=j4 (kc l):=by have:=agC l l.length 0 (zero_le _);rw[drop_zero]at this;show(⟨(Seal.w6 (j4 l) l.length 0).toArray⟩:ByteArray)=_;rw[this];rfl
theorem Na(aD:l.length<=1000000)(ah:aa (bS (kc l)) H):ay P 122 [bS l] H aa:=by refine aqD (s:=j4 l) (by rw[Bn];omega) ?_;rw[ayi];exact ah
theorem ayj(aD:l.length<=1000000)(hm:m.length<=1000000)(ah:aa (.bool (kc l==kc m)) H):ay P 233 [bS l,bS m] H aa:=by apply atz;unfold adz;exact Na aD (Na hm (ag (show _=some (.bool (kc l==kc m))from rfl) ah))
structure pY where
 cF:List UInt8
 dc:Nat
 y8:Int
def sR(t:pY):List Value:=[bS t.cF,bT .u64 t.dc,int t.y8]
def nV(m:da)(t:pY):Int:=if¬eG m then 131 else if kc m.cF≠kc t.cF then 143 else if m.cV<t.dc then 144 else if m.cT>t.y8 then 145 else 0
theorem agD{t:pY}:dr (agg (sR t))=sR t:=rfl
theorem ayk{k:IntKind}{t:TypeId}{c:Bool}{a b:Nat}:(ar P .lss t c).f (bT k a) (bT k b)=some (.bool (decide (a<b))):=by simp_all[fr]
theorem ayl{m:da}{t:pY}(ok:m.b4)(aB:e8 ae aZ m.aN)(ht:t.cF.length<=1000000)(hO:aj H ae)(ah:∀ab,aj ab ae->aa (int (nV m t)) ab):ay P 197 [agg (bN m aZ),agg (sR t)] H aa:=by
 apply as4;unfold acV;have vQ:=sP (aZ:=aZ) ok.dh;have qb:=ok.MF;unfold nV at ah;rw[zD,agD];refine j3 hO.z ?_;intro dx H hO;refine j3 hO ?_;intro bp H hO
 replace hO:aj H (ae++[(dx,⟨bN m aZ,true⟩),(bp,⟨sR t,true⟩)]):=hO
 refine jN hO 0 rfl (eS ok.dh) (by omega) (F4 ok aB.app hO ?_);intro H hO;refine ag ix (qj (fun h=>?_) (fun h=>?_));have h:¬eG m:=by grind
 rw[if_pos h]at ah;exact ah H hO.left;have h:eG m:=by simpa using h
 rw[if_neg (by grind)]at ah;refine ag b7 (cB hO 0 rfl (v:=bS m.cF) rfl (ag b7 (cB hO 1 rfl (v:=bS t.cF) rfl (ayj (by omega) ht (ag ix (qj (fun h=>?_) (fun h=>?_)))))));have h:kc m.cF≠kc t.cF:=by grind
 rw[if_pos h]at ah;exact ah H hO.left;have h:¬kc m.cF≠kc t.cF:=by grind
 rw[if_neg h]at ah;refine ag b7 (cB hO 0 rfl (v:=bT .u64 m.cV) rfl (ag b7 (cB hO 1 rfl (v:=bT .u64 t.dc) rfl (ag ayk (bF (fun h=>?_) (fun h=>?_))))));rw[if_pos h]at ah;exact ah H hO.left;rw[if_neg h]at ah;refine ag b7 (cB hO 0 rfl (v:=int m.cT) rfl (ag b7 (cB hO 1 rfl (v:=int t.y8) rfl (ag kS (bF (fun h=>?_) (fun h=>?_))))));rw[if_pos h]at ah;exact ah H hO.left;rw[if_neg (by omega)]at ah;exact ah H hO.left
end J
namespace J
open Go Go.Ab
variable[cu:b0]
end J
namespace J
open Go Go.Ab
variable[cu:b0]
end J
