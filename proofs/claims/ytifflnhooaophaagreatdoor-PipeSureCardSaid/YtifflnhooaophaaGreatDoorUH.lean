/- texts of the nF, e5 behind the l0 -/
import Derived.Lib.RuneBytes
import Derived.Shelf.Unicode.CaseLaid
import Derived.Test.YtifflnhooaophaaGreatDoorUG
set_option linter.unusedVariables false
set_option linter.unusedSimpArgs false
set_option linter.unusedSectionVars false
set_option maxHeartbeats 4000000
set_option maxRecDepth 100000
open List Nat
namespace J
open Go Go.Ab
variable[cr:bW]
variable{H:ar}{ae:List (Nat×ay)}{ab:VH}{v w x aT:Value}{ak aX b key ms:List Int}{n k:Nat}{e:Int}{l:List UInt8}{bo:List (List Int)}
theorem aer(b:List Int):lL b=(0,141)\/∃n:Nat,lL b=((n:Int),0)/\36<=n/\n<=2304/\4<=b.length/\b.take 2=[66,85]/\n=h6 ((b.take 4).drop 2)+36:=by
 unfold lL
 grind
def fh(key b:List Int):dm×Int×Int:=
 if(lL b).2≠0\/(b.length:Int)<(lL b).1 then(cT,0,141)
 else if q4 key (b.take ((lL b).1.toNat-32))≠(b.take (lL b).1.toNat).drop ((lL b).1.toNat-32)then(cT,0,142)
 else if(mf ((b.take ((lL b).1.toNat-32)).drop 4)).2≠0 then(cT,0,(mf ((b.take ((lL b).1.toNat-32)).drop 4)).2)
 else((mf ((b.take ((lL b).1.toNat-32)).drop 4)).1,(lL b).1,0)
theorem avT(h:lL b=(0,141)):fh key b=(cT,0,141):=by simp_all[fh]
theorem avU{n:Nat}(h:lL b=((n:Int),0))(h2:b.length<n):fh key b=(cT,0,141):=by simp_all[fh]
theorem aes{n:Nat}(h:lL b=((n:Int),0))(h2:n<=b.length):fh key b=if q4 key (b.take (n-32))≠(b.take n).drop (n-32)then(cT,0,142)
 else if(mf ((b.take (n-32)).drop 4)).2≠0 then(cT,0,(mf ((b.take (n-32)).drop 4)).2)
 else((mf ((b.take (n-32)).drop 4)).1,(n:Int),0):=by
 simp_all[fh,if_neg]
theorem eY.nil:eY ae bq []:=.inl ⟨rfl,rfl⟩
theorem cl.take{n:Nat}(h:cl b):cl (b.take n):=fun x al=>h x (mem_of_mem_take al)
theorem cl.drop{n:Nat}(h:cl b):cl (b.drop n):=fun x al=>h x (mem_of_mem_drop al)
theorem aet{b:List Int}(an:cl b)(aE:b.length<=9000):(mf b).1.b6:=by
 unfold mf BT;split;have h1:∀(ak:List Int) (e:Int) (n:Nat),(kd ak e n).length<=ak.length:=fun ak e n=>by grind[kd]
 have je:cl (ox b 0 96,re b 0 96).1:=by show cl (ox b 0 96);unfold ox j4;split;intro x h;cases h;exact zN (zN an _ _) _ _
 have nT:me (iR (vH b 0 96) (ox b 0 96,re b 0 96))<=65:=by grind[me]
 refine aea je ?_ (by omega) (mB (mB (mB (mB je))))
 grind[vH,kr,K8]
 exact BU
theorem avV(hO:aj H ae)(hv:b3 ae v key)(aM:b3 ae w b)(an:cl key)(mw:cl b)(aE:key.length<=1000000)(sD:b.length<=1000000)
  (ag:∀aa aT,aj aa (ae++bB aT (fA (fh key b).1.bo))->eY (bB aT (fA (fh key b).1.bo)) aT (fh key b).1.bo->ab (.tuple [agg (bM (fh key b).1 aT),int (fh key b).2.1,int (fh key b).2.2].toArray) aa):az P 196 [v,w] H ab:=by
 apply aq0;unfold aaO;rw[yr];refine ja hO.z ?_;intro cM H hO
 replace hO:aj H (ae++[(cM,⟨bM cT bq,true⟩)]):=hO
 refine avN hO aM.app mw sD ?_;intro H hO;refine ah jT (ah jU (e6 (fun aF aa=>aF=[v,w,ai cM 0,int (lL b).1,.bool (decide ((lL b).2≠0\/(b.length:Int)<(lL b).1))]/\H=aa) ?_ ?_));refine ah ik (bz (fun h=>?_) (fun h=>?_));exact ah (hT h) (⟨by rw[decide_eq_true (show(lL b).2≠0\/(b.length:Int)<(lL b).1 from .inl h)],rfl⟩);exact bV aM.bP (ah ez (ah (ho h) (⟨by rw[decide_eq_decide.2 (show(b.length:Int)<(lL b).1↔((lL b).2≠0\/(b.length:Int)<(lL b).1)from⟨.inr,fun h2=>h2.resolve_left h⟩)],rfl⟩)));rintro aF aa ⟨rfl,rfl⟩
 try simp only[cu,cv]
 refine bz (fun h=>?_) (fun h=>?_);have bC:fh key b=(cT,0,141):=if_pos h;rw[bC]at ag;refine ah Lc (kq hO 0 rfl (by rfl) (by rfl) (nf rfl) ?_);intro H hO;exact iQ hO 0 rfl (by rfl) (by omega) (ag H bq hO.left.z eY.nil);rcases aer b with aN|⟨N,aN,b7,ca,g3,g4,g5⟩
 exact absurd (.inl (by rw[aN];simp)) h;have nT:N<=b.length:=by
  have:¬(b.length:Int)<(lL b).1:=fun a6=>h (.inr a6)
  rw[aN]at this;simpa using this
 rw[aes aN nT]at ag;rw[aN];have zG:((N:Int)-32)=((N-32:Nat):Int):=by omega
 refine ah (v:=int ((N-32:Nat):Int)) (by rw[<- zG];exact mu (by omega) (by omega)) ?_;obtain⟨dS,bb,i1⟩:=wM aM (n:=N-32) (by omega);refine ah bb (ah (v:=int ((N-32:Nat):Int)) (by rw[<- zG];exact mu (by omega) (by omega)) ?_);obtain⟨dD,bt,jR⟩:=Lg aM (i:=N-32) (t:=N) (by omega) nT;refine ah bt ?_;rw[K9];refine ja hO ?_;intro Lj H hO
 replace hO:aj H (ae++[(cM,⟨bM cT bq,true⟩),(Lj,⟨a1 mA,true⟩)]):=hO
 refine ah (GH hO 1 rfl (by simp[mA]) (by omega)) ?_;have s7:((b.take N).drop (N-32)).length=32:=by rw[length_drop,length_take];omega
 refine QU hO (i:=ae.length+1) (aA rfl) (aX:=(b.take N).drop (N-32)) ((jR _ aM).app) (by omega) (by simp[mA]) ?_;intro H hO
 replace hO:=hO.cb
 rw[show(a1 mA).take 0++(a1 ((b.take N).drop (N-32))++(a1 mA).drop (0+((b.take N).drop (N-32)).length))=a1 ((b.take N).drop (N-32)) by rw[drop_of_length_le (l:=a1 mA) (by rw[s7];simp[mA])];simp]at hO
 replace hO:aj H (ae++[(cM,⟨bM cT bq,true⟩),(Lj,⟨a1 ((b.take N).drop (N-32)),true⟩)]):=hO
 have om:=i1 _ aM;have avW:Lj<H.next:=hO.lt (Lj,⟨a1 ((b.take N).drop (N-32)),true⟩) (by simp);obtain⟨c1,eZ,ep,aeu⟩:=om.kz;have Xr:cl ((b.take N).drop (N-32)):=cl.drop (cl.take mw);have lk:cl ((b.take (N-32)).drop 4):=cl.drop (cl.take mw);have pv:((b.take (N-32)).drop 4).length<=9000:=by rw[length_drop,length_take];omega
 have u7:(b.take (N-32)).length=N-32:=by rw[length_take];omega
 have avX:cl (b.take (N-32)):=cl.take mw;obtain⟨v3,dZ,qm⟩:=KB om (n:=4) (by omega)
 replace qm:=qm _ om
 generalize (b.take N).drop (N-32)=tail at*;generalize (b.take (N-32)).drop 4=inner at*;generalize b.take (N-32)=said at*;refine gj hO (by rw[aeu];exact ach _ _ _ _) ?_;rw[<- aeu];intro q2 cB de;refine auN (x:=dS) (ms:=said) de (hv.app.app) (aA (k:=0) rfl) (om.app.app) an avX (by omega) (by omega) ?_;intro iN lo;refine hG lo (ae.length+1) (aK (aA rfl)) (show _=a1 tail from by rw[drop_zero];exact take_of_length_le (by simp[s7])) (by simp[s7]) (by omega) (⟨gu de (ae.length+1) (aK (aA rfl)) lo (ae.length+1) (aK (aA rfl)) (zA _),tq avW,?_⟩);refine auQ Lh s7 aen Xr lo ?_;intro H hO
 replace hO:=hO.left
 refine ah jF ?_;by_cases hm:q4 key said=tail;rw[decide_eq_true hm];refine et rfl ?_;rw[if_neg (fun h=>h hm)]at ag;refine ah dZ (avu hO qm.app lk pv ?_);intro H pL hO lT;refine ah jT (ah jU ?_);have avY:=aet lk pv;have Lk:=avY.cX;rcases ael inner with dQ|dQ
 rw[if_neg (fun h=>h dQ)]at ag;simp only at ag;rw[dQ];generalize (mf inner).1=ev at*;have qM:eA pL=true:=lT.e5;refine c4 hO ?_;intro Ll H hO;refine e7 hO (_+0) (aA rfl) (by rfl) (el Lk) (nf qM) ?_;intro H hO
 replace hO:=hO.cb
 refine ah ik (nr (by omega) (fs hO (_+0) (aA rfl) (el Lk) (by omega) (e7 hO (ae.length+0) (aK (aK (aA rfl))) (by rfl) (el Lk) (nf qM) ?_)));intro H hO;rw[set_append_left _ _ (by simp),set_append_left _ _ (by simp),Go.Ab.cb]at hO;exact fs hO (ae.length+0) (aK (aK (aA rfl))) (el Lk) (by omega) (ag H pL (aj.cd hO.left) lT);rw[dQ,if_pos (by simp)]at ag;rw[dQ]at hO;rw[dQ];refine c4 hO ?_;intro Ll H hO;refine e7 hO (_+0) (aA rfl) (by rfl) (by rfl) (nf (by rw[dQ]at lT;exact lT.e5)) ?_;intro H hO;refine ah ik (rK (by decide) (ah Lc ?_))
 replace hO:=hO.cb.left.left
 refine kq hO 0 rfl (by rfl) (by rfl) (nf rfl) ?_;intro H hO;exact iQ hO 0 rfl (by rfl) (by omega) (ag H bq hO.left.z eY.nil);rw[decide_eq_false hm];refine fg rfl ?_;rw[if_pos hm]at ag;refine ah Lc (kq hO 0 rfl (by rfl) (by rfl) (nf rfl) ?_);intro H hO;exact iQ hO 0 rfl (by rfl) (by omega) (ag H bq hO.left.z eY.nil)
end J
namespace J
open Go Go.Ab
variable[cr:bW]
variable{b key:List Int}{m:dm}
theorem aev(ok:m.b6)(h:en m):(qp key m).length=(wY m).length+32/\(qp key m).length<=2228/\84<=(qp key m).length/\(wY m).length=(sJ m).length+4:=by grind[aep,RG,qp,Lh]
theorem RH{key b:List Int}(an:cl b)(aE:b.length<=1000000):((fh key b).2.2=0/\en (fh key b).1/\(fh key b).1.b6/\(fh key b).2.1=((qp key (fh key b).1).length:Int)/\(qp key (fh key b).1).length<=b.length/\b.take (qp key (fh key b).1).length=qp key (fh key b).1)\/
  ((fh key b).1=cT/\(fh key b).2.1=0/\((fh key b).2.2=141\/(fh key b).2.2=142\/(fh key b).2.2=131)):=by
 rcases aer b with aN|⟨N,aN,b7,ca,g3,g4,g5⟩
 simp_all[avT]
 by_cases nT:b.length<N
 grind[avU]
 rw[aes aN (by omega)];by_cases hm:q4 key (b.take (N-32))≠(b.take N).drop (N-32)
 simp_all
 rw[if_neg hm];have lk:cl ((b.take (N-32)).drop 4):=cl.drop (cl.take an);have pv:((b.take (N-32)).drop 4).length<=9000:=by grind
 have avZ:((b.take (N-32)).drop 4).length=N-36:=by grind
 rcases ael ((b.take (N-32)).drop 4)with dQ|dQ
 rw[if_neg (fun h=>h dQ)];left;have eL:=aet lk pv;obtain⟨cC,bw⟩:=avI lk (m:=(mf ((b.take (N-32)).drop 4)).1) (Prod.ext rfl dQ);simp only;generalize (mf ((b.take (N-32)).drop 4)).1=ev at*;have hA:wY ev=b.take (N-32):=by
  unfold wY;rw[bw,avZ];have bb:kc 2 (N-36)=(b.take 4).drop 2:=by
   have cj:N-36=h6 ((b.take 4).drop 2):=by omega
   rw[cj];have:=RE ((b.take 4).drop 2) (cl.drop (cl.take an))
   simp_all
  rw[bb,<- g4];have bt:b.take 2++(b.take 4).drop 2=b.take 4:=by
   conv=>rhs;rw[<- take_append_drop 2 (b.take 4)]
   grind
  grind[take_append_drop]
 have dP:qp key ev=b.take N:=by
  unfold qp;rw[hA,Classical.not_not.1 hm]
  conv=>rhs;rw[<- take_append_drop (N-32) (b.take N)]
  grind
 simp_all
 simp_all
end J
namespace J
open Go Go.Ab
variable[cr:bW]
variable{b key:List Int}{a:dm}
theorem av0{a b c:Value}:ee 0 (.tuple [a,b,c].toArray)=some a:=rfl
theorem av1{a b c:Value}:ee 1 (.tuple [a,b,c].toArray)=some b:=rfl
theorem av2{a b c:Value}:ee 2 (.tuple [a,b,c].toArray)=some c:=rfl
theorem aew(an:cl b)(aE:b.length<=1000000):(fh key b).1.b6:=by
 rcases RH (key:=key) an aE with h|h
 exact h.2.2.1;rw[h.1];exact BU
end J
namespace J
open Go Go.Ab
variable[cr:bW]
variable{l:List UInt8}{m:dm}
theorem aex(t:TypeId)(c:Bool)(l m:List UInt8)(h:l.length+m.length<=1000000000):(au P .add t c).f (bl l) (bl m)=some (bl (l++m)):=by show EP .add l m=_;unfold EP;simp only[iv,gE];rw[if_pos (ble_eq_true_of_le (by omega))]
end J
namespace J
open Go Go.Ab
variable[cr:bW]
variable{v:Value}
theorem Em{P:Program}{t:TypeId}{bj:Array Field}(ht:P.underlying t=some (.struct bj)){cR:List TypeId}{N:Nat}{c:List Value}{b:List (List Value)}(h:fZ P (t::cR) N c b):fZ P (bj.toList.map (·.type)++cR) N c b:=by
 cases h with
 | struct bc h=>rw[ht]at bc;cases bc;exact h
 | array bc _=>rw[ht]at bc;cases bc
 | int v bc _ _=>rw[ht]at bc;cases bc
 | bool v bc _=>rw[ht]at bc;cases bc
 | bl v bc _ _=>rw[ht]at bc;cases bc
 | kP bc _=>rw[ht]at bc;cases bc
 | aC len bc _ _ _ _=>rw[ht]at bc;cases bc
theorem RI{P:Program}{t:TypeId}(ht:P.underlying t=some .string){cR:List TypeId}{N:Nat}{c:List Value}{b:List (List Value)}(h:fZ P (t::cR) N c b):∃(l:List UInt8) (b5:List Value),c=bl l::b5/\fZ P cR N b5 b:=by
 cases h with
 | bl v bc _ h=>grind
 | array bc h=>simp_all
 | struct bc _=>simp_all
 | int v bc _ _=>simp_all
 | bool v bc _=>simp_all
 | kP bc _=>simp_all
 | aC len bc _ _ _ _=>simp_all
theorem av3:P.underlying 22=some (.slice 5):=by rfl
end J
namespace J
open Go Go.Ab
variable[cr:bW]
variable{H:ar}{ae:List (Nat×ay)}{ab:VH}{v x:Value}{ak aX b:List Int}{p q n k:Nat}{e:Int}
def rf(n:Int):Prop:=0<=n/\n<=1114111/\(n<55296\/57343<n)
def aey(x:Go.Lib.CaseRow):Bool:=
 if x.delta 1>1114111 then decide ((x.2.1:Int)+1<=1114111/\((x.2.1:Int)+1<55296\/57343<(x.1:Int)))
 else decide (0<=(x.1:Int)+x.delta 1/\(x.2.1:Int)+x.delta 1<=1114111/\((x.2.1:Int)+x.delta 1<55296\/57343<(x.1:Int)+x.delta 1))
theorem av4:Go.Lib.caseT.all aey=true:=by kernel_rfl
theorem RJ(T:Array Go.Lib.CaseRow)(r:Int):∀(f fc aq i:Nat),Go.Lib.lookupIdx T r f fc aq=some i->aq<=T.size->i<T.size/\((T.getD i (0,0,0,0,0)).1:Int)<=r/\r<=((T.getD i (0,0,0,0,0)).2.1:Int)
 | 0,fc,aq,i,h,_=>by cases h
 | f+1,fc,aq,i,h,hh=>by unfold Go.Lib.lookupIdx at h;split at h;split at h;rename_i h1 h2;obtain rfl:=Option.some.inj h;exact⟨by omega,h2⟩;split at h;exact RJ T r f _ _ i h (by omega);exact RJ T r f _ _ i h hh;cases h
theorem aez{n:Int}(h:rf n):rf (Go.Lib.toLowerU n):=by
 unfold Go.Lib.toLowerU;split;split;unfold rf at *;omega;exact h;rename_i h1;unfold Go.Lib.toR Go.Lib.lookupGo;cases aE:Go.Lib.lookupIdx Go.Lib.caseA n (Go.Lib.caseA.size+1) 0 Go.Lib.caseA.size with
 | none=>exact h
 | some i=>
  show rf (Go.Lib.convertR 1 n (Go.Lib.caseA.getD i (0,0,0,0,0)));obtain⟨aq,h2,aB⟩:=RJ _ _ _ _ _ _ aE (Nat.le_refl _);have hg:=all_eq_true.1 av4 (Go.Lib.caseA[i]'aq) (by have:=Array.getElem_mem aq;rw[<- Array.mem_toList_iff]at this;exact this);have e:Go.Lib.caseA.getD i (0,0,0,0,0)=Go.Lib.caseA[i]'aq:=by simp_all
  rw[e]at h2 aB⊢;generalize Go.Lib.caseA[i]'aq=y at*;unfold aey at hg;unfold Go.Lib.convertR rf at*
  grind
def Lm(n:Nat):Nat:=(Go.Lib.toLowerU n).toNat
theorem RK{n:Nat}(h:rf n):Go.Lib.toLowerU n=Lm n:=(Int.toNat_of_nonneg (aez h).1).symm
theorem aeA{n:Nat}(h:rf n):rf (Lm n):=by rw[<- RK h];exact aez h
def zR(n:Nat):List Int:=
 if n<128 then [((n:Nat):Int)]
 else if n<2048 then [((192+n/64:Nat):Int),((128+n%64:Nat):Int)]
 else if n<65536 then [((224+n/4096:Nat):Int),((128+n/64%64:Nat):Int),((128+n%64:Nat):Int)]
 else [((240+n/262144:Nat):Int),((128+n/4096%64:Nat):Int),((128+n/64%64:Nat):Int),((128+n%64:Nat):Int)]
theorem av5{n:Nat}(h:rf n):Go.Lib.encodeRune n=gU (zR n):=by
 obtain⟨aN,h1,h2⟩:=h
 grind[Go.Lib.encodeRune,gU,zR,Go.Lib.encodeRuneZ_one,Go.Lib.encodeRuneZ_two,Go.Lib.encodeRuneZ_three,Go.Lib.encodeRuneZ_four]
theorem av6(n:Nat):(zR n).length<=4:=by grind[zR]
theorem av7(ak:List Int):(gU ak).length=ak.length:=by simp[gU]
theorem uA{t:TypeId}{c:Bool}{a b:Nat}(an:0<b):(au P .rem t c).f (int a) (int b)=some (int ((a%b:Nat):Int)):=xS (k:=.i64) an
theorem rY{t:TypeId}{c:Bool}{a b:Nat}(h:a+b<=9223372036854775807):(au P .add t c).f (int a) (int b)=some (int ((a+b:Nat):Int)):=by grind[jg]
theorem wZ{a:Nat}(h:a<256):hd .u8 (int a) H=some (.int .u8 ((a:Nat):Int),H):=by grind[avh]
theorem av8(a b c:Int)(H:ar):(eg P 22 3).f [(0,.int .u8 a),(1,.int .u8 b),(2,.int .u8 c)] H=some (aC H.next 0 3 3,H.push (a1 [a,b,c])):=by rfl
theorem av9(a b c d:Int)(H:ar):(eg P 22 4).f [(0,.int .u8 a),(1,.int .u8 b),(2,.int .u8 c),(3,.int .u8 d)] H=some (aC H.next 0 4 3,H.push (a1 [a,b,c,d])):=by rfl
theorem Ln{H:ar}{q p n:Nat}{ab:VH}(hO:aj H ((ae++bB (aC q 0 0 3) [])++[(p,⟨a1 aX,true⟩)]))(aR:n=aX.length)(aE:aX.length<=4)(ag:∀aa,aj aa ae->ab (bl (gU aX)) aa):
  af (fu 1 1 (aC q 0 0 3) (aC p 0 n 3) H) fun v H=>af (n1 v H) fun s H=>ab s H:=by
 refine wA (ak:=[]) hO (.inr ⟨q,.inr ⟨rfl,rfl⟩,rfl,Nat.le_refl _,rfl⟩) (by grind) aR (.inr rfl) ?_;intro H v c hO hv;exact bV (b3.bl hO hv.hF.app') (ag H hO.left)
theorem awa(aR:n<=1114111)(hO:aj H ae)(ag:∀aa,aj aa ae->ab (bl (gU (zR n))) aa):az P 159 [int n] H ab:=by
 apply aqJ;unfold aax;refine gj hO (yd _) ?_;intro q H hO;unfold zR at ag;refine ah ez (bz (fun h=>?_) (fun h=>?_));rw[if_pos (by omega)]at ag;refine bV (wZ (by omega)) (gj hO (Gr _ _ _) ?_);intro p H hO;exact Ln hO rfl (by simp) ag;rw[if_neg (by omega)]at ag;refine ah ez (bz (fun h=>?_) (fun h=>?_));rw[if_pos (by omega)]at ag;refine ah (wT (b:=64) (by omega) (by omega)) (ah (rY (a:=192) (by omega)) (bV (wZ (by omega)) (ah (uA (b:=64) (by omega)) (ah (rY (a:=128) (by omega)) (bV (wZ (by omega)) (gj hO (asi _ _ _ _ _) ?_))))));intro p H hO;exact Ln hO rfl (by simp) ag;rw[if_neg (by omega)]at ag;refine ah ez (bz (fun h=>?_) (fun h=>?_));rw[if_pos (by omega)]at ag;refine ah (wT (b:=4096) (by omega) (by omega)) (ah (rY (a:=224) (by omega)) (bV (wZ (by omega)) (ah (wT (b:=64) (by omega) (by omega)) (ah (uA (b:=64) (by omega)) (ah (rY (a:=128) (by omega)) (bV (wZ (by omega)) (ah (uA (b:=64) (by omega)) (ah (rY (a:=128) (by omega)) (bV (wZ (by omega)) (gj hO (av8 _ _ _ _) ?_))))))))));intro p H hO;exact Ln hO rfl (by simp) ag;rw[if_neg (by omega)]at ag;refine ah (wT (b:=262144) (by omega) (by omega)) (ah (rY (a:=240) (by omega)) (bV (wZ (by omega)) (ah (wT (b:=4096) (by omega) (by omega)) (ah (uA (b:=64) (by omega)) (ah (rY (a:=128) (by omega)) (bV (wZ (by omega)) (ah (wT (b:=64) (by omega) (by omega)) (ah (uA (b:=64) (by omega)) (ah (rY (a:=128) (by omega)) (bV (wZ (by omega)) (ah (uA (b:=64) (by omega)) (ah (rY (a:=128) (by omega)) (bV (wZ (by omega)) (gj hO (av9 _ _ _ _ _) ?_))))))))))))))
 intro p H hO;exact Ln hO rfl (by simp) ag
end J
namespace J
open Go Go.Ab
variable[cr:bW]
variable{H:ar}{ae:List (Nat×ay)}{ab:VH}{v x aT:Value}{b:List Int}{o n k:Nat}{e:Int}{l m:List UInt8}{ds:List (List UInt8)}
theorem RL{size hc nd:Nat}{r:Nat×Nat}(h:q6 l size hc nd=some r):rf r.1:=by unfold q6 at h;split at h;cases h;split at h;split at h;cases h;cases h;unfold rf;omega;cases h
theorem aeB{r:Nat×Nat}(h:fr l=some r):rf r.1:=by have:=sG l 0;unfold fr at h;split at h;cases h;unfold rf;omega;split at h;exact RL h;split at h;exact RL h;split at h;exact RL h;cases h
def kF(s:List UInt8):List UInt8:=match fr s with
 | none=>s.take 1
 | some r=>gU (zR (Lm r.1))
def lE(ds:List (List UInt8)):List UInt8:=ds.flatMap kF
def hs(l:List UInt8):List UInt8:=lE (q7 l)
theorem aeC(s:List UInt8):(kF s).length<=4:=by grind[kF,av7,av6]
theorem aeD:∀ds:List (List UInt8),(lE ds).length<=4*ds.length
 | []=>Nat.le_refl _
 | a::ds=>by have h1:=aeD ds;have h2:=aeC a;show(kF a++lE ds).length<=_;rw[length_append,length_cons];omega
theorem aeE{y:Nat}(a8:y<ds.length):lE (ds.take (y+1))=lE (ds.take y)++kF ds[y]:=by grind[take_add_one,lE]
theorem awb(s:List UInt8):∃(n:Nat) (pc:List UInt8) (eB:Bool),nA s=[int n,bl pc,.bool eB]/\n<=1114111/\(eB=true->kF s=pc)/\(eB=false->rf n/\kF s=gU (zR (Lm n))):=by
 cases h:fr s with
 | none=>exact⟨fW s 0,s.take 1,true,by grind[nA],by grind[sG],fun _=>by grind[kF],fun h=>by cases h⟩
 | some r=>exact⟨r.1,s.take r.2,false,by grind[nA],adK h,fun h=>(by cases h),fun _=>⟨aeB h,by grind[kF]⟩⟩
theorem awc{n:Nat}(h:n<2147483648):hd .i64 (.int .i32 (n:Int)) H=some (int n,H):=by
 show some (Value.int .i64 (iJ .i64 (n:Int)),H)=_
 grind[xM]
theorem Lo(aE:l.length<=1000000)(hO:aj H ae)(ag:∀aa,aj aa ae->ab (bl (hs l)) aa):az P 93 [bl l] H ab:=by
 apply apS;unfold Zr;refine adI aE hO ?_;intro H v hO hv;have u7:(q7 l).length<=l.length:=Q3 _ _;unfold hs at ag;generalize q7 l=ds at*;refine bV hv.bP (apR (fun k aF aa=>∃(y:Nat),y<=ds.length/\k=ds.length-y/\aF=[bl [],bl (lE (ds.take y)),v,int ds.length,int y]/\aj aa (ae++bB v (ow ds))) _ _ ?_ ds.length _ _ ⟨0,by omega,by omega,rfl,hO⟩);rintro k aF H ⟨y,a8,rfl,rfl,hO⟩;unfold Zq
 try simp only[cu,cv]
 refine ah ez (bz (fun h=>?_) (fun h=>?_));have a8:y<ds.length:=by omega
 obtain⟨eK,aT,rfl,pH⟩:∃eK aT,v=aC eK 0 ds.length aT/\bB v (ow ds)=[(eK,⟨ow ds,true⟩)]:=by
  rcases hv with⟨_,aN,_⟩|⟨eK,rfl|rfl,_⟩
  omega;exact⟨eK,_,rfl,rfl⟩;exact⟨eK,_,rfl,rfl⟩
 rw[pH]at hO;obtain⟨n,pc,eB,r1,aR,r2,fe⟩:=awb ds[y];have Q6:=zz (f:=nA) (n:=3) (l:=ds) (i:=y) (o:=0) (m:=3) (fun x _=>(Q1 x).2) a8 (by omega);rw[r1]at Q6;have hlen:=aeD (ds.take y);have aeF:=aeC ds[y];rw[length_take]at hlen;refine ah (h4 (by omega) (by omega)) (hG hO (ae.length+0) (aA rfl) (show _=[int n,bl pc,.bool eB]from by simp_all) rfl (by omega) ?_);rw[K3];refine ja hO ?_;intro fo H hO;refine kq hO 1 rfl rfl rfl rfl ?_;intro H hO
 replace hO:aj H (ae++[(eK,⟨ow ds,true⟩),(fo,⟨[int n,bl pc,.bool eB],true⟩)]):=hO
 refine ah b0 (cw hO 1 rfl (v:=.bool eB) rfl ?_);cases eB with
 | true=>
  refine fg rfl (ah b0 (cw hO 1 rfl (v:=bl pc) rfl ?_));rw[r2 rfl]at aeF;refine ah (aex _ _ _ _ (by omega)) (ah (jg (by omega) (by omega)) (⟨ds.length-(y+1),by omega,y+1,by omega,rfl,?_,?_⟩))
  simp_all[aeE]
  rw[pH];exact yl (A:=[(eK,⟨ow ds,true⟩)]) hO
 | false=>
  obtain⟨RM,fe⟩:=fe rfl;have CS:=aeA RM;rw[fe]at aeF;refine et rfl (ah b0 (cw hO 1 rfl (v:=int n) rfl (bV (adJ (by omega) (by omega)) (aou ?_))));rw[RK RM];refine bV (awc (by grind[rf])) (awa (by grind[rf]) hO ?_);intro H hO;refine ah (aex _ _ _ _ (by omega)) (ah (jg (by omega) (by omega)) (⟨ds.length-(y+1),by omega,y+1,by omega,rfl,?_,?_⟩))
  simp_all[aeE]
  rw[pH];exact yl (A:=[(eK,⟨ow ds,true⟩)]) hO
 have e:y=ds.length:=by omega
 subst e;rw[take_of_length_le (Nat.le_refl _)];refine km rfl ?_
 try simp only[cu,cv]
 exact ag _ hO.left
theorem awd(l:List UInt8)(aZ:Nat)(bS:aZ<l.length):(Seal.Gk (jv l) aZ=kF (l.drop aZ))/\(Utf8.decode (jv l) aZ).2=pQ (l.drop aZ):=by
 refine⟨?_,(adP l aZ 0 bS).2⟩;have da:l.drop aZ≠[]:=by simp_all
 have al:(jv l).extract aZ (jv l).size=jv (l.drop aZ):=by
  apply ByteArray.ext
  simp_all[zK,take_of_length_le]
 have ht:=Go.Lib.tail_decode (jv l) aZ 0;rw[al,Nat.add_zero]at ht;obtain⟨d0,d1⟩:=adN da;have wH:Go.Lib.decodeGo (jv (l.drop aZ))=Utf8.decode (jv (l.drop aZ)) 0:=by unfold Go.Lib.decodeGo;rw[if_neg (by grind[zK])]
 have hg:[(jv l).get! aZ]=(l.drop aZ).take 1:=by
  have h1:(jv l).get! aZ=l[aZ]:=by
   show(l.toArray)[aZ]! = _
   simp_all
  grind[drop_eq_getElem_cons]
 unfold Seal.Gk Seal.zt;rw[al,wH,<- ht];cases bC:fr (l.drop aZ)with
 | none=>
  rw[d0 bC]
  simp_all[kF]
 | some r=>
  rw[d1 r bC];have avb:=adO bC;have RM:=aeB bC;rw[decide_eq_false (show¬((r.1:Int)=65533/\r.2=1) by omega),if_neg (by simp)]
  simp_all[kF,RK,av5,aeA]
theorem aeG(l:List UInt8):∀(b aZ:Nat),aZ<=l.length->Seal.vz (jv l) b aZ=lE (sH b (l.drop aZ))
 | 0,aZ,_=>rfl
 | b+1,aZ,bS=>by
  unfold Seal.vz sH;by_cases h:aZ<l.length;obtain⟨h1,h2⟩:=awd l aZ h;have da:l.drop aZ≠[]:=by simp_all
  have aM:=K4 da;rw[length_drop]at aM;rw[if_pos (show aZ<(jv l).size from h),if_neg da,h1,h2,aeG l b (aZ+pQ (l.drop aZ)) (by omega),drop_drop];rfl;have Q8:l.drop aZ=[]:=drop_of_length_le (by omega);rw[if_neg (show¬aZ<(jv l).size from h),if_pos Q8];rfl
theorem awe(l:List UInt8):Seal.zu (jv l)=jv (hs l):=by have:=aeG l l.length 0 (zero_le _);rw[drop_zero]at this;show(⟨(Seal.vz (jv l) l.length 0).toArray⟩:ByteArray)=_;rw[this];rfl
theorem Lp(aE:l.length<=1000000)(ag:ab (bl (hs l)) H):az P 122 [bl l] H ab:=by refine aos (s:=jv l) (by rw[zK];omega) ?_;rw[awe];exact ag
theorem awf(aE:l.length<=1000000)(hm:m.length<=1000000)(ag:ab (.bool (hs l==hs m)) H):az P 233 [bl l,bl m] H ab:=by apply arz;unfold abr;exact Lp aE (Lp hm (ah (show _=some (.bool (hs l==hs m))from rfl) ag))
structure kJ where
 cE:List UInt8
 ck:Nat
 wo:Int
def qq(t:kJ):List Value:=[bl t.cE,bQ .u64 t.ck,int t.wo]
def qs(m:dm)(t:kJ):Int:=if¬en m then 131 else if hs m.cE≠hs t.cE then 143 else if m.eb<t.ck then 144 else if m.cU>t.wo then 145 else 0
theorem RN{t:kJ}:cZ (agg (qq t))=qq t:=rfl
theorem aeH{k:IntKind}{t:TypeId}{c:Bool}{a b:Nat}:(au P .lss t c).f (bQ k a) (bQ k b)=some (.bool (decide (a<b))):=by simp_all[ez]
theorem awg{m:dm}{t:kJ}(ok:m.b6)(aD:eY ae aT m.bo)(ht:t.cE.length<=1000000)(hO:aj H ae)(ag:∀aa,aj aa ae->ab (int (qs m t)) aa):az P 197 [agg (bM m aT),agg (qq t)] H ab:=by
 apply aq1;unfold aaP;have rb:=q8 (aT:=aT) ok.cX;have pv:=ok.GL;unfold qs at ag;rw[yo,RN];refine ja hO.z ?_;intro cC H hO;refine ja hO ?_;intro bw H hO
 replace hO:aj H (ae++[(cC,⟨bM m aT,true⟩),(bw,⟨qq t,true⟩)]):=hO
 refine iQ hO 0 rfl (el ok.cX) (by omega) (Eg ok aD.app hO ?_);intro H hO;refine ah jF (qf (fun h=>?_) (fun h=>?_));have h:¬en m:=by grind
 rw[if_pos h]at ag;exact ag H hO.left;have h:en m:=by simpa using h
 rw[if_neg (by grind)]at ag;refine ah b0 (cw hO 0 rfl (v:=bl m.cE) rfl (ah b0 (cw hO 1 rfl (v:=bl t.cE) rfl (awf (by omega) ht (ah jF (qf (fun h=>?_) (fun h=>?_)))))));have h:hs m.cE≠hs t.cE:=by grind
 rw[if_pos h]at ag;exact ag H hO.left;have h:¬hs m.cE≠hs t.cE:=by grind
 rw[if_neg h]at ag;refine ah b0 (cw hO 0 rfl (v:=bQ .u64 m.eb) rfl (ah b0 (cw hO 1 rfl (v:=bQ .u64 t.ck) rfl (ah aeH (bz (fun h=>?_) (fun h=>?_))))));rw[if_pos h]at ag;exact ag H hO.left;rw[if_neg h]at ag;refine ah b0 (cw hO 0 rfl (v:=int m.cU) rfl (ah b0 (cw hO 1 rfl (v:=int t.wo) rfl (ah kQ (bz (fun h=>?_) (fun h=>?_))))));rw[if_pos h]at ag;exact ag H hO.left;rw[if_neg (by omega)]at ag;exact ag H hO.left
theorem awh{m:dm}{t:kJ}(ok:m.b6)(aD:eY ae aT m.bo)(ht:t.cE.length<=1000000)(hO:aj H ae)(ag:∀aa,aj aa ae->ab (int (qs m t)) aa):az P 38 [agg (bM m aT),agg (qq t)] H ab:=by
 apply ao5;unfold YA;have rb:=q8 (aT:=aT) ok.cX;have pv:=ok.GL;unfold qs at ag;rw[yo,RN];refine ja hO.z ?_;intro cC H hO;refine ja hO ?_;intro bw H hO
 replace hO:aj H (ae++[(cC,⟨bM m aT,true⟩),(bw,⟨qq t,true⟩)]):=hO
 refine iQ hO 0 rfl (el ok.cX) (by omega) (Eh ok aD.app hO ?_);intro H hO;refine ah jF (qf (fun h=>?_) (fun h=>?_));have h:¬en m:=by grind
 rw[if_pos h]at ag;exact ag H hO.left;have h:en m:=by simpa using h
 rw[if_neg (by grind)]at ag;refine ah b0 (cw hO 0 rfl (v:=bl m.cE) rfl ?_);have eh:=hO;refine Lo (by omega) hO ?_;intro cB hO;refine ah b0 (cw hO 1 rfl (v:=bl t.cE) rfl (⟨gu eh (ae.length+1) (aA rfl) hO (ae.length+1) (aA rfl) rfl,?_⟩));refine Lo ht hO ?_;intro H hO;refine ah (show _=some (.bool (!(hs m.cE==hs t.cE)))from rfl) (qf (fun h=>?_) (fun h=>?_));have h:hs m.cE≠hs t.cE:=by grind
 rw[if_pos h]at ag;exact ag H hO.left;have h:¬hs m.cE≠hs t.cE:=by grind
 rw[if_neg h]at ag;refine ah b0 (cw hO 0 rfl (v:=bQ .u64 m.eb) rfl (ah b0 (cw hO 1 rfl (v:=bQ .u64 t.ck) rfl (ah aeH (bz (fun h=>?_) (fun h=>?_))))));rw[if_pos h]at ag;exact ag H hO.left;rw[if_neg h]at ag;refine ah b0 (cw hO 0 rfl (v:=int m.cU) rfl (ah b0 (cw hO 1 rfl (v:=int t.wo) rfl (ah kQ (bz (fun h=>?_) (fun h=>?_))))));rw[if_pos h]at ag;exact ag H hO.left;rw[if_neg (by omega)]at ag;exact ag H hO.left
end J
namespace J
open Go Go.Ab
variable[cr:bW]
end J
namespace J
open Go Go.Ab
variable[cr:bW]
end J
