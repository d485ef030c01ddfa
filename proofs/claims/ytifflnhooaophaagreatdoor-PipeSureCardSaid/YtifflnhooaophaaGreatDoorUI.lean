/- texts of the nF, e5 behind the l0 -/
import Derived.Test.YtifflnhooaophaaGreatDoorUH
set_option linter.unusedVariables false
set_option linter.unusedSimpArgs false
set_option linter.unusedSectionVars false
set_option maxHeartbeats 4000000
set_option maxRecDepth 100000
open List Nat
namespace J
open Go Go.Ab
variable[cr:bW]
variable{H:ar}{ae L:List (Nat×ay)}{ab:VH}{v:Value}{b:List Int}{i j q r n k f dp:Nat}{e:Int}{ao bu:List Value}{l:List UInt8}{aJ:List (List Value)}{dg:List Value}
def cY(q n dp f k:Nat):List Value:=[aC q 0 n (2*dp+1),int f,int k,.bool false]
structure iF (dp n f:Nat) (aJ:List (List Value)) (ao:List Value):Prop where
 eZ:1<=n
 uB:n<=16
 ck:f<n
 rh:aJ.length<=n
 len:ao.length=n*dp
 BW:∀e∈aJ,e.length=dp
 kj:∀j (h:j<aJ.length),(ao.drop (((f+j)%n)*dp)).take dp=aJ[j]
theorem En(aR:1<=n)(j:Nat):(f+j)%n<n:=mod_lt _ (by omega)
theorem aeI{j:Nat}(hf:f<n)(bh:j<n):(f+j)%n=if f+j<n then f+j else f+j-n:=by
 split
 simp_all[mod_eq_of_lt]
 rw[mod_eq_sub_mod (by omega),mod_eq_of_lt (by omega)]
theorem aeJ{j k:Nat}(hf:f<n)(bh:j<k)(ag:k<n):(f+j)%n≠(f+k)%n:=by
 rw[aeI hf ag,aeI hf (by omega)]
 grind
theorem aeK{a:Nat}(h:a<n)(aE:ao.length=n*dp)(he:dg.length=dp):(ao.take (a*dp)++(dg++ao.drop (a*dp+dp))).length=n*dp:=by
 have:a*dp+dp<=n*dp:=by rw[<- succ_mul];exact mul_le_mul_right _ h
 grind
theorem awi{a:Nat}(h:a<n)(aE:ao.length=n*dp)(he:dg.length=dp):((ao.take (a*dp)++(dg++ao.drop (a*dp+dp))).drop (a*dp)).take dp=dg:=by grind[mul_le_mul_right]
theorem aeL{a c:Nat}(h:a<n)(aD:c<n)(da:a≠c)(aE:ao.length=n*dp)(he:dg.length=dp):((ao.take (a*dp)++(dg++ao.drop (a*dp+dp))).drop (c*dp)).take dp=(ao.drop (c*dp)).take dp:=by
 have h1:a*dp+dp<=n*dp:=by rw[<- succ_mul];exact mul_le_mul_right _ h
 have h2:c*dp+dp<=n*dp:=by rw[<- succ_mul];exact mul_le_mul_right _ aD
 apply ext_getElem?;intro y;rw[List.getElem?_take,List.getElem?_take];split;rename_i a8;rw[List.getElem?_drop,List.getElem?_drop];rcases Nat.lt_or_gt_of_ne da with aB|aB
 have bk:a*dp+dp<=c*dp:=by rw[<- succ_mul];exact mul_le_mul_right _ aB
 grind
 have bk:c*dp+dp<=a*dp:=by rw[<- succ_mul];exact mul_le_mul_right _ aB
 grind
 rfl
theorem iF.aeM(h:iF dp n f aJ ao)(ag:aJ.length<n)(he:dg.length=dp):iF dp n f (aJ++[dg]) (ao.take (((f+aJ.length)%n)*dp)++(dg++ao.drop (((f+aJ.length)%n)*dp+dp))):=by
 have hm:=En (f:=f) h.eZ aJ.length;refine⟨h.eZ,h.uB,h.ck,by grind,aeK hm h.len he,?_,?_⟩;intro e hm;rcases mem_append.1 hm with h1|h1
 exact h.BW e h1
 simp_all
 intro j bh;by_cases h1:j<aJ.length;rw[aeL hm (En h.eZ j) (aeJ h.ck h1 ag).symm h.len he,getElem_append_left h1];exact h.kj j h1;have:j=aJ.length:=by grind
 subst this;rw[awi hm h.len he];simp
theorem iF.aeN(h:iF dp n f (dg::aJ) ao){z:List Value}(dQ:z.length=dp):iF dp n ((f+1)%n) aJ (ao.take (f*dp)++(z++ao.drop (f*dp+dp))):=by
 have ag:=h.rh;rw[length_cons]at ag;refine⟨h.eZ,h.uB,En h.eZ 1,by omega,aeK h.ck h.len dQ,fun e hm=>h.BW e (mem_cons_of_mem _ hm),?_⟩;intro j bh;have bb:((f+1)%n+j)%n=(f+(j+1))%n:=by grind[mod_add_mod]
 have bt:f≠(f+(j+1))%n:=by have:=aeJ (f:=f) (j:=0) (k:=j+1) h.ck (by omega) (by omega);rw[Nat.add_zero,mod_eq_of_lt h.ck]at this;exact this
 rw[bb,aeL h.ck (En h.eZ (j+1)) bt h.len dQ];exact h.kj (j+1) (by grind)
theorem iF.head(h:iF dp n f (dg::aJ) ao):(ao.drop (f*dp)).take dp=dg:=by have:=h.kj 0 (by simp);rw[Nat.add_zero,mod_eq_of_lt h.ck]at this;exact this
theorem aeO(hO:aj H (ae++L))(aq:L[i]?=some (r,⟨cY q n 2 f k,true⟩))(ag:k<=n)(aR:n<=16)(ma:ab (int ((n-k:Nat):Int)) H):az P 128 [ai r 0] H ab:=by apply aqa;unfold ZK;refine aU (cw hO i aq (v:=.bool false) rfl (et rfl (aU (cw hO i aq (v:=aC q 0 n 5) rfl (bV xL (aU (cw hO i aq (v:=int k) rfl (ah (mu (by omega) (by omega)) ?_))))))));rw[show((n-k:Nat):Int)=(n:Int)-k by omega]at ma;exact ma
theorem aeP(hO:aj H (ae++L))(aq:L[i]?=some (r,⟨cY q n 2 f k,true⟩))(hf:f<n)(aR:n<=16)(bh:j<=16)(ma:ab (int (((f+j)%n:Nat):Int)) H):az P 189 [ai r 0,int j] H ab:=by apply aqT;unfold aaH;exact aU (cw hO i aq (v:=int f) rfl (ah (rY (by omega)) (aU (cw hO i aq (v:=aC q 0 n 5) rfl (bV xL (ah (uA (by omega)) ma))))))
theorem awj(hO:aj H (ae++L))(aq:L[i]?=some (r,⟨cY q n 2 f k,true⟩))(ma:ab (int k) H):az P 136 [ai r 0] H ab:=by apply aqh;unfold ZS;exact aU (cw hO i aq (v:=int k) rfl ma)
theorem ri(l:List Value):cZ (agg l)=l:=rfl
theorem awk{a:Int}{v:Value}(hO:aj H (ae++L))(aq:L[i]?=some (r,⟨cY q n 2 f aJ.length,true⟩))(bh:L[j]?=some (q,⟨ao,true⟩))(p9:i≠j)(h:iF 2 n f aJ ao)(hv:fE v=true)(jh:eA v=true)
  (ey:aJ.length=n->∀aa,aj aa (ae++L)->ab (.bool false) aa)
  (pd:aJ.length<n->∀aa bu,iF 2 n f (aJ++[[int a,v]]) bu->aj aa (ae++((L.set j (q,⟨bu,true⟩)).set i (r,⟨cY q n 2 f (aJ.length+1),true⟩)))->ab (.bool true) aa):
  az P 130 [ai r 0,agg [int a,v]] H ab:=by
 apply aqc;unfold ZM;have fY:=h.rh;have mZ:=h.uB;have sl:=(List.getElem?_eq_some_iff.1 aq).1;have qO:=(List.getElem?_eq_some_iff.1 bh).1;rw[ri];refine ja hO ?_;intro eX H hO;have fJ:=aK (L:=[(eX,(⟨[int a,v],true⟩:ay))]) aq;have oT:=aK (L:=[(eX,(⟨[int a,v],true⟩:ay))]) bh;refine aeO hO fJ fY mZ (ah fl (bz (fun aN=>?_) (fun aN=>?_)));exact ey (by omega) H (yl hO);have dy:aJ.length<n:=by omega
 have hm:=En (f:=f) h.eZ aJ.length;refine aU (cw hO i fJ (v:=aC q 0 n 5) rfl (aU (cw hO i fJ (v:=int aJ.length) rfl (aeP hO fJ h.ck mZ (by omega) (⟨gu hO (ae.length+i) (aA fJ) hO (ae.length+i) (aA fJ) rfl,?_⟩)))));refine fs hO (ae.length+L.length) (aA (List.getElem?_concat_length ..)) rfl (by omega) ?_;refine⟨gu hO (ae.length+L.length) (aA (List.getElem?_concat_length ..)) hO (ae.length+L.length) (aA (List.getElem?_concat_length ..)) (by simp[hv];rfl),?_⟩;refine ah (h4 (by omega) (by omega)) ?_;have Ii:0+(((f+aJ.length)%n:Nat):Int).toNat*2=((f+aJ.length)%n)*2:=by omega
 rw[Ii];have lg:(f+aJ.length)%n*2+2<=ao.length:=by rw[h.len];omega
 refine o0 hO (ae.length+j) (aA oT) (by rfl) lg (by simp[ri,jh];rfl) ?_;intro H hO
 replace hO:=hO.cb
 rw[set_append_left _ _ qO]at hO;have aw:iF 2 n f (aJ++[[int a,v]]) (ao.take (((f+aJ.length)%n)*2)++(cZ (agg [int a,v])++ao.drop (((f+aJ.length)%n)*2+2))):=h.aeM dy rfl;generalize ao.take (((f+aJ.length)%n)*2)++(cZ (agg [int a,v])++ao.drop (((f+aJ.length)%n)*2+2))=dR at*;have qJ:=aK (L:=[(eX,(⟨[int a,v],true⟩:ay))]) ((List.getElem?_set_ne (by omega:j≠i):(L.set j (q,(⟨dR,true⟩:ay)))[i]?=L[i]?).trans aq);refine aU (cw hO i qJ (v:=int aJ.length) rfl (ah (rY (b:=1) (by omega)) (aU (di hO i qJ rfl (by simp[cY]) ?_))));intro H hO;rw[set_append_left _ _ (by simp_all)]at hO;exact pd dy H dR aw (yl hO)
end J
namespace J
open Go Go.Ab
variable[cr:bW]
variable{H:ar}{ae L:List (Nat×ay)}{ab:VH}{v:Value}{i j q r n f:Nat}{e:Int}{ao bu:List Value}{aJ:List (List Value)}{dg:List Value}
theorem RO:cQ P 179=[int 0,bq]:=by rfl
def Lq(z:List Value):List (List Value)->List Value
 | []=>z
 | dg::_=>dg
def aeQ:List (List Value)->Bool
 | []=>false
 | _::_=>true
theorem Lr{A:List Value}(h:A.length=1):∃a,A=[a]:=by
 match A,h with
 | [a],_=>simp_all
theorem awl(hO:aj H (ae++L))(aq:L[i]?=some (r,⟨cY q n 2 f aJ.length,true⟩))(bh:L[j]?=some (q,⟨ao,true⟩))(h:iF 2 n f aJ ao)(h1:∀e∈aJ,e.all eA=true)
  (ag:∀aa,aj aa (ae++L)->ab (.tuple [agg (Lq [int 0,bq] aJ),.bool (aeQ aJ)].toArray) aa):az P 195 [ai r 0] H ab:=by
 apply aqZ;unfold aaN;have mZ:=h.uB;rw[RO];refine ja hO ?_;intro bw H hO;refine ja hO ?_;intro cM H hO;rw[append_assoc]at hO
 replace hO:aj H (ae++(L++[(bw,⟨[int 0,bq],true⟩),(cM,⟨[int 0,bq],true⟩)])):=hO
 have fJ:=aK (L:=[(bw,(⟨[int 0,bq],true⟩:ay)),(cM,⟨[int 0,bq],true⟩)]) aq;have oT:=aK (L:=[(bw,(⟨[int 0,bq],true⟩:ay)),(cM,⟨[int 0,bq],true⟩)]) bh;refine aU (cw hO i fJ (v:=int aJ.length) rfl (ah fl ?_));cases aJ with
 | nil=>refine rK rfl (iQ hO (L.length+1) (aA rfl) rfl (by omega) (kq hO (L.length+0) (aA rfl) rfl rfl rfl ?_));intro H hO;rw[Go.Ab.cb]at hO;exact iQ hO (L.length+0) (aA rfl) rfl (by omega) (ag H (yl hO))
 | cons dg aJ=>refine nr (by grind) ?_;have h2:=h.BW dg (by simp);have aB:=h1 dg (by simp);have hf:=h.ck;refine aU (cw hO i fJ (v:=aC q 0 n 5) rfl (aU (cw hO i fJ (v:=int f) rfl (ah (h4 (by omega) (by omega)) ?_))));rw[show 0+((f:Nat):Int).toNat*2=f*2 by omega];refine hG hO (ae.length+j) (aA oT) h.head h2 (by omega) (kq hO (L.length+0) (aA rfl) rfl h2 aB ?_);intro H hO;rw[Go.Ab.cb]at hO;exact iQ hO (L.length+0) (aA rfl) h2 (by omega) (ag H (yl hO))
theorem awm(hO:aj H (ae++L))(aq:L[i]?=some (r,⟨cY q n 2 f aJ.length,true⟩))(bh:L[j]?=some (q,⟨ao,true⟩))(p9:i≠j)(h:iF 2 n f aJ ao)(h1:∀e∈aJ,e.all eA=true)
  (ey:aJ=[]->∀aa,aj aa (ae++L)->ab (.tuple [agg [int 0,bq],.bool false].toArray) aa)
  (pd:∀dg bA,aJ=dg::bA->∀aa bu,iF 2 n ((f+1)%n) bA bu->aj aa (ae++((L.set j (q,⟨bu,true⟩)).set i (r,⟨cY q n 2 ((f+1)%n) bA.length,true⟩)))->ab (.tuple [agg dg,.bool true].toArray) aa):
  az P 138 [ai r 0] H ab:=by
 apply aqj;unfold ZU;have mZ:=h.uB;have hf:=h.ck;have sl:=(List.getElem?_eq_some_iff.1 aq).1;have qO:=(List.getElem?_eq_some_iff.1 bh).1;rw[RO];refine ja hO ?_;intro bw H hO;refine awl hO (aK aq) (aK bh) h h1 ?_;intro H hO;refine ah rfl (ah rfl (ja hO ?_));intro cM H hO;rw[append_assoc]at hO
 replace hO:aj H (ae++(L++[(bw,⟨[int 0,bq],true⟩),(cM,⟨[int 0,bq],true⟩)])):=hO
 have BX:(Lq [int 0,bq] aJ).length=2:=by
  cases aJ with
  | nil=>rfl
  | cons dg aJ=>exact h.BW dg (by simp)
 have RP:(Lq [int 0,bq] aJ).all eA=true:=by
  cases aJ with
  | nil=>rfl
  | cons dg aJ=>exact h1 dg (by simp)
 refine kq hO (L.length+1) (aA rfl) rfl BX RP ?_;intro H hO;rw[Go.Ab.cb]at hO
 replace hO:aj H (ae++(L++[(bw,⟨[int 0,bq],true⟩),(cM,⟨Lq [int 0,bq] aJ,true⟩)])):=hO
 cases aJ with
 | nil=>refine et rfl (iQ hO (L.length+1) (aA rfl) BX (by omega) (kq hO (L.length+0) (aA rfl) rfl BX RP ?_));intro H hO;rw[Go.Ab.cb]at hO;exact iQ hO (L.length+0) (aA rfl) BX (by omega) (ey rfl H (yl hO))
 | cons dg aJ=>
  have nR:=h.rh;rw[length_cons]at nR;refine fg rfl (ja hO ?_);intro gH H hO;rw[append_assoc]at hO
  replace hO:aj H (ae++(L++[(bw,⟨[int 0,bq],true⟩),(cM,⟨dg,true⟩),(gH,⟨[int 0,bq],true⟩)])):=hO
  generalize bd:[(bw,(⟨[int 0,bq],true⟩:ay)),(cM,⟨dg,true⟩),(gH,⟨[int 0,bq],true⟩)]=T at*;have fJ:=aK (L:=T) aq;have oT:=aK (L:=T) bh;refine aU (cw hO i fJ (v:=aC q 0 n 5) rfl (aU (cw hO i fJ (v:=int f) rfl (iQ hO (L.length+2) (aA (by rw[<- bd];rfl)) rfl (by omega) (ah (h4 (by omega) (by omega)) ?_)))));rw[show 0+((f:Nat):Int).toNat*2=f*2 by omega];have lg:f*2+2<=ao.length:=by rw[h.len];omega
  refine o0 hO (ae.length+j) (aA oT) (by rfl) lg (by rfl) ?_;intro H hO
  replace hO:=hO.cb
  rw[set_append_left _ _ qO]at hO;have aw:iF 2 n ((f+1)%n) aJ (ao.take (f*2)++(cZ (agg [int 0,bq])++ao.drop (f*2+2))):=h.aeN rfl;generalize ao.take (f*2)++(cZ (agg [int 0,bq])++ao.drop (f*2+2))=dR at*;have qJ:=aK (L:=T) ((List.getElem?_set_ne (by omega:j≠i):(L.set j (q,(⟨dR,true⟩:ay)))[i]?=L[i]?).trans aq);refine aeP (j:=1) hO qJ hf mZ (by omega) (aU (di hO i qJ rfl (by simp[cY]) ?_));intro H hO;rw[set_append_left _ _ (by simp_all)]at hO;have GU:((L.set j (q,(⟨dR,true⟩:ay))).set i (r,⟨cY q n 2 ((f+1)%n) (aJ.length+1),true⟩)++T)[i]?=some (r,⟨cY q n 2 ((f+1)%n) (aJ.length+1),true⟩):=aK (List.getElem?_set_self (by simp_all))
  replace hO:aj H (ae++((L.set j (q,(⟨dR,true⟩:ay))).set i (r,⟨cY q n 2 ((f+1)%n) (aJ.length+1),true⟩)++T)):=hO
  refine aU (cw hO i GU (v:=int ((aJ.length+1:Nat):Int)) rfl (ah (mu (by omega) (by omega)) (aU (di hO i GU rfl (by simp[cY]) ?_))));intro H hO;rw[set_append_left _ _ (by simp_all),set_set]at hO
  replace hO:aj H (ae++((L.set j (q,(⟨dR,true⟩:ay))).set i (r,⟨[aC q 0 n 5,int ((f+1)%n:Nat),int (((aJ.length+1:Nat):Int)-1),.bool false],true⟩)++T)):=hO
  rw[show(((aJ.length+1:Nat):Int)-1)=aJ.length by omega]at hO;have hlen:((L.set j (q,(⟨dR,true⟩:ay))).set i (r,⟨[aC q 0 n 5,int ((f+1)%n:Nat),int aJ.length,.bool false],true⟩)).length=L.length:=by simp
  subst bd;refine iQ hO (L.length+1) (by rw[<- hlen];exact aA rfl) BX (by omega) (kq hO (L.length+0) (by rw[<- hlen];exact aA rfl) rfl BX RP ?_);intro H hO;rw[<- hlen,Go.Ab.cb]at hO;exact iQ hO (L.length+0) (by rw[<- hlen];exact aA rfl) BX (by omega) (pd dg aJ rfl H dR aw (yl hO))
end J
namespace J
open Go Go.Ab
variable[cr:bW]
variable{H:ar}{ae L:List (Nat×ay)}{ab:VH}{v x:Value}{b:List Int}{i j q r n k f:Nat}{e:Int}{ao bu:List Value}{l:List UInt8}{aJ:List (List Value)}{dg:List Value}
theorem Ls(hO:aj H (ae++L))(aq:L[i]?=some (r,⟨cY q n 1 f k,true⟩))(ag:k<=n)(aR:n<=16)(ma:ab (int ((n-k:Nat):Int)) H):az P 137 [ai r 0] H ab:=by apply aqi;unfold ZT;refine aU (cw hO i aq (v:=.bool false) rfl (et rfl (aU (cw hO i aq (v:=aC q 0 n 3) rfl (bV xL (aU (cw hO i aq (v:=int k) rfl (ah (mu (by omega) (by omega)) ?_))))))));rw[show((n-k:Nat):Int)=(n:Int)-k by omega]at ma;exact ma
theorem aeR(hO:aj H (ae++L))(aq:L[i]?=some (r,⟨cY q n 1 f k,true⟩))(hf:f<n)(aR:n<=16)(bh:j<=16)(ma:ab (int (((f+j)%n:Nat):Int)) H):az P 183 [ai r 0,int j] H ab:=by apply aqO;unfold aaC;exact aU (cw hO i aq (v:=int f) rfl (ah (rY (by omega)) (aU (cw hO i aq (v:=aC q 0 n 3) rfl (bV xL (ah (uA (by omega)) ma))))))
theorem RQ{v:Value}(h:eA v=true):cZ v=[v]:=by cases v<;>first|rfl|(cases h;done)
theorem Eo{v:Value}(hO:aj H (ae++L))(aq:L[i]?=some (r,⟨cY q n 1 f aJ.length,true⟩))(bh:L[j]?=some (q,⟨ao,true⟩))(p9:i≠j)(h:iF 1 n f aJ ao)(jh:eA v=true)
  (ey:aJ.length=n->ab (.bool false) H)
  (pd:aJ.length<n->∀aa bu,iF 1 n f (aJ++[[v]]) bu->aj aa (ae++((L.set j (q,⟨bu,true⟩)).set i (r,⟨cY q n 1 f (aJ.length+1),true⟩)))->ab (.bool true) aa):
  az P 194 [ai r 0,v] H ab:=by
 apply aqY;unfold aaM;have fY:=h.rh;have mZ:=h.uB;have sl:=(List.getElem?_eq_some_iff.1 aq).1;have qO:=(List.getElem?_eq_some_iff.1 bh).1;refine Ls hO aq fY mZ (ah fl (bz (fun aN=>?_) (fun aN=>?_)));exact ey (by omega);have dy:aJ.length<n:=by omega
 have hm:=En (f:=f) h.eZ aJ.length;refine aU (cw hO i aq (v:=aC q 0 n 3) rfl (aU (cw hO i aq (v:=int aJ.length) rfl (aeR hO aq h.ck mZ (by omega) (⟨gu hO (ae.length+i) (aA aq) hO (ae.length+i) (aA aq) rfl,?_⟩)))));refine ah (h4 (by omega) (by omega)) ?_;have Ii:0+(((f+aJ.length)%n:Nat):Int).toNat*1=((f+aJ.length)%n)*1:=by omega
 rw[Ii];have lg:(f+aJ.length)%n*1+1<=ao.length:=by rw[h.len];omega
 refine o0 hO (ae.length+j) (aA bh) (by grind[RQ]) lg (by simp_all[RQ]) ?_;intro H hO
 replace hO:=hO.cb
 rw[RQ jh]at hO;have aw:iF 1 n f (aJ++[[v]]) (ao.take (((f+aJ.length)%n)*1)++([v]++ao.drop (((f+aJ.length)%n)*1+1))):=h.aeM dy rfl;generalize ao.take (((f+aJ.length)%n)*1)++([v]++ao.drop (((f+aJ.length)%n)*1+1))=dR at*;have qJ:(L.set j (q,(⟨dR,true⟩:ay)))[i]?=_:=(List.getElem?_set_ne (by omega:j≠i)).trans aq;refine aU (cw hO i qJ (v:=int aJ.length) rfl (ah (rY (b:=1) (by omega)) (aU (di hO i qJ rfl (by simp[cY]) ?_))));intro H hO;exact pd dy H dR aw hO
noncomputable def awn:List (List Value)->Value
 | []=>.nilIface
 | dg::_=>b4 dg 0
theorem awo(hO:aj H (ae++L))(aq:L[i]?=some (r,⟨cY q n 1 f aJ.length,true⟩))(bh:L[j]?=some (q,⟨ao,true⟩))(h:iF 1 n f aJ ao)
  (ag:ab (.tuple [awn aJ,.bool (aeQ aJ)].toArray) H):az P 182 [ai r 0] H ab:=by
 apply aqN;unfold aaB;have mZ:=h.uB;refine aU (cw hO i aq (v:=int aJ.length) rfl (ah fl ?_));cases aJ with
 | nil=>exact rK rfl ag
 | cons dg aJ=>
  refine nr (by grind) ?_;have h2:=h.BW dg (by simp);have hf:=h.ck;obtain⟨a,rfl⟩:=Lr h2;refine aU (cw hO i aq (v:=aC q 0 n 3) rfl (aU (cw hO i aq (v:=int f) rfl (ah (h4 (by omega) (by omega)) ?_))));have hh:=h.head;have aB:ao[0+((f:Nat):Int).toNat*1]?=some a:=by
   have e:=congrArg (fun l=>l[0]?) hh
   grind
  exact cw hO j bh aB ag
theorem aeS(hO:aj H (ae++L))(aq:L[i]?=some (r,⟨cY q n 1 f aJ.length,true⟩))(bh:L[j]?=some (q,⟨ao,true⟩))(p9:i≠j)(h:iF 1 n f aJ ao)
  (ey:aJ=[]->ab (.tuple [.nilIface,.bool false].toArray) H)
  (pd:∀a bA,aJ=[a]::bA->∀aa bu,iF 1 n ((f+1)%n) bA bu->aj aa (ae++((L.set j (q,⟨bu,true⟩)).set i (r,⟨cY q n 1 ((f+1)%n) bA.length,true⟩)))->ab (.tuple [a,.bool true].toArray) aa):
  az P 126 [ai r 0] H ab:=by
 apply ap7;unfold ZJ;have mZ:=h.uB;have hf:=h.ck;have sl:=(List.getElem?_eq_some_iff.1 aq).1;have qO:=(List.getElem?_eq_some_iff.1 bh).1;refine awo hO aq bh h (ah rfl (ah rfl ?_));cases aJ with
 | nil=>exact et rfl (ey rfl)
 | cons dg aJ=>
  have nR:=h.rh;rw[length_cons]at nR;obtain⟨a,rfl⟩:=Lr (h.BW dg (by simp));refine fg rfl (aU (cw hO i aq (v:=aC q 0 n 3) rfl (aU (cw hO i aq (v:=int f) rfl (ah (h4 (by omega) (by omega)) ?_)))));rw[show 0+((f:Nat):Int).toNat*1=f*1 by omega];have lg:f*1+1<=ao.length:=by rw[h.len];omega
  refine o0 hO (ae.length+j) (aA bh) (by rfl) lg (by rfl) ?_;intro H hO
  replace hO:=hO.cb
  have aw:iF 1 n ((f+1)%n) aJ (ao.take (f*1)++(cZ .nilIface++ao.drop (f*1+1))):=h.aeN rfl;generalize ao.take (f*1)++(cZ .nilIface++ao.drop (f*1+1))=dR at*;have qJ:(L.set j (q,(⟨dR,true⟩:ay)))[i]?=_:=(List.getElem?_set_ne (by omega:j≠i)).trans aq;refine aeR (j:=1) hO qJ hf mZ (by omega) (aU (di hO i qJ rfl (by simp[cY]) ?_));intro H hO;have GU:((L.set j (q,(⟨dR,true⟩:ay))).set i (r,⟨cY q n 1 ((f+1)%n) (aJ.length+1),true⟩))[i]?=some (r,⟨cY q n 1 ((f+1)%n) (aJ.length+1),true⟩):=List.getElem?_set_self (by simp_all)
  replace hO:aj H (ae++((L.set j (q,(⟨dR,true⟩:ay))).set i (r,⟨cY q n 1 ((f+1)%n) (aJ.length+1),true⟩))):=hO
  refine aU (cw hO i GU (v:=int ((aJ.length+1:Nat):Int)) rfl (ah (mu (by omega) (by omega)) (aU (di hO i GU rfl (by simp[cY]) ?_))));intro H hO;rw[set_set]at hO
  replace hO:aj H (ae++((L.set j (q,(⟨dR,true⟩:ay))).set i (r,⟨[aC q 0 n 3,int ((f+1)%n:Nat),int (((aJ.length+1:Nat):Int)-1),.bool false],true⟩))):=hO
  rw[show(((aJ.length+1:Nat):Int)-1)=aJ.length by omega]at hO;exact pd a aJ rfl H dR aw hO
def fi(x:Int):Nat:=(max 1 (min x 16)).toNat
theorem aeT(x:Int):1<=fi x/\fi x<=16/\((fi x:Nat):Int)=max 1 (min x 16):=by grind[fi]
theorem aeU{z:List Value}(n:Nat)(h1:1<=n)(h2:n<=16):iF z.length n 0 [] (fR n z):=by exact⟨h1,h2,by omega,by simp,Ih n z,by simp,fun j h=>by simp at h⟩
theorem awp{x:Int}(hO:aj H (ae++L))(ag:∀aa q r ao,iF 2 (fi x) 0 [] ao->aj aa (ae++(L++[(q,⟨ao,true⟩),(r,⟨cY q (fi x) 2 0 0,true⟩)]))->ab (ai r 0) aa):az P 77 [int x] H ab:=by apply apA;unfold Y8;obtain⟨r1,r2,fe⟩:=aeT x;refine bV vr (bV zh ?_);rw[<- fe];rw[show(qH P 134).f (int (fi x:Nat)) (int (fi x:Nat)) H=tI 2 32 [int 0,bq] (int (fi x:Nat)) (int (fi x:Nat)) H from by rfl];refine FX hO (by omega) (by omega) ?_;intro q H hO;refine ah (show _=some (agg [aC q 0 (fi x) 5,int 0,int 0,.bool false])from by rfl) (c4 hO ?_);intro r H hO;refine ag H q r _ (aeU (z:=[int 0,bq]) _ r1 r2) ?_;rw[append_assoc,append_assoc]at hO;exact hO
theorem aeV{x:Int}(hO:aj H (ae++L))(ag:∀aa q r ao,iF 1 (fi x) 0 [] ao->aj aa (ae++(L++[(q,⟨ao,true⟩),(r,⟨cY q (fi x) 1 0 0,true⟩)]))->ab (ai r 0) aa):az P 78 [int x] H ab:=by apply apB;unfold Y9;obtain⟨r1,r2,fe⟩:=aeT x;refine bV vr (bV zh ?_);rw[<- fe];rw[show(qH P 269).f (int (fi x:Nat)) (int (fi x:Nat)) H=tI 1 16 [.nilIface] (int (fi x:Nat)) (int (fi x:Nat)) H from by rfl];refine FX hO (by omega) (by omega) ?_;intro q H hO;refine ah (show _=some (agg [aC q 0 (fi x) 3,int 0,int 0,.bool false])from by rfl) (c4 hO ?_);intro r H hO;refine ag H q r _ (aeU (z:=[.nilIface]) _ r1 r2) ?_;rw[append_assoc,append_assoc]at hO;exact hO
end J
namespace J
open Go Go.Ab
variable[cr:bW]
variable{H:ar}{ae:List (Nat×ay)}{ab:VH}{v aT:Value}{b:List Int}{f:Nat}{e i:Int}{m:dm}{t:kJ}
def gm(m:dm)(i:Int):Int×Int:=if¬en m\/i<0\/i≥m.bo.length then(0,0)else(i*m.bx,min m.bx (m.cU-i*m.bx))
theorem GV(U:en m)(aN:0<=i)(h1:i<m.bo.length):0<=i*m.bx/\i*m.bx<=65536/\(i=(m.bo.length:Int)-1->m.cU-i*m.bx<=m.bx/\0<m.cU-i*m.bx)/\(i≠(m.bo.length:Int)-1->m.bx<=m.cU-i*m.bx):=by
 obtain⟨_,_,_,di,cP,ep,hl,_,aD,aR⟩:=U;unfold lY at aD;rw[if_neg (by omega)]at aD;have aO:=Int.mul_ediv_add_emod (m.cU-1) m.bx;have u5:=Int.emod_nonneg (m.cU-1) (show m.bx≠0 by omega);have p4:=Int.emod_lt_of_pos (m.cU-1) (show 0<m.bx by omega);have atu:0<=(m.cU-1)/m.bx:=Int.ediv_nonneg (by omega) (by omega);generalize (m.cU-1)/m.bx=d at*;generalize (m.cU-1)%m.bx=e at*;have GW:∀a c:Int,0<=a->a<=c->a*m.bx<=c*m.bx:=fun a c _ h=>Int.mul_le_mul_of_nonneg_right h (by omega)
 have bb:m.bx*d=d*m.bx:=Int.mul_comm _ _;have b1:=GW 0 i (by omega) aN;have b2:=GW i d aN (by omega);refine⟨by omega,by omega,fun h=>?_,fun h=>?_⟩
 grind
 have hB:=GW (i+1) d (by omega) (by omega)
 grind
theorem Ep{t:TypeId}{c:Bool}{a b:Int}(h1:-9223372036854775808<=a*b)(h2:a*b<=9223372036854775807):(au P .mul t c).f (int a) (int b)=some (int (a*b)):=by rw[qT _ _ rfl];show some (Value.int .i64 (iJ .i64 (a*b)))=_;rw[xM h1 h2]
theorem RR(ok:m.b6)(aD:eY ae aT m.bo)(hO:aj H ae)(ag:∀aa,aj aa ae->ab (.tuple [int (gm m i).1,int (gm m i).2].toArray) aa):az P 188 [agg (bM m aT),int i] H ab:=by
 apply aqS;unfold aaG;have rb:=q8 (aT:=aT) ok.cX;rw[yo];refine ja hO.z ?_;intro cC H hO
 replace hO:aj H (ae++[(cC,⟨bM m aT,true⟩)]):=hO
 refine e6 (fun aF aa=>aF=[int i,ai cC 0,.bool (decide (¬en m\/i<0\/i≥m.bo.length))]/\aj aa (ae++[(cC,⟨bM m aT,true⟩)])) ?_ ?_;refine iQ hO 0 rfl (el ok.cX) (by omega) (Eg ok aD.app hO ?_);intro H hO;refine ah jF ?_;by_cases U:en m;rw[decide_eq_true U];refine et rfl (ah ez (ah mr (bz (fun h=>?_) (fun h=>?_))));exact ah (hT h) (⟨by simp[h],hO⟩);exact ah b0 (cw hO 0 rfl rb (bV aD.bP (ah ss (ah (ho h) (⟨by grind,hO⟩)))));rw[decide_eq_false U];exact fg rfl (ah ll (ah ll (⟨by simp[U],hO⟩)));rintro aF H ⟨rfl,hO⟩
 try simp only[cu,cv]
 unfold gm at ag;refine bz (fun h=>?_) (fun h=>?_);rw[if_pos h]at ag;exact ag H hO.left;rw[if_neg h]at ag;have U:en m:=Classical.byContradiction fun h1=>h (.inl h1)
 obtain⟨di,cP,sq,RS⟩:=GV (i:=i) U (by omega) (by omega);have gg:=U;obtain⟨_,_,_,lA,oU,ep,hl,_⟩:=gg;exact ah b0 (cw hO 0 rfl (v:=int m.bx) rfl (ah (Ep (by omega) (by omega)) (ah b0 (cw hO 0 rfl (v:=int m.bx) rfl (ah b0 (cw hO 0 rfl (v:=int m.cU) rfl (ah (mu (by omega) (by omega)) (bV vr (ag H hO.left)))))))))
theorem awq(ok:m.b6)(aD:eY ae aT m.bo)(hO:aj H ae)(ag:∀aa,aj aa ae->ab (.tuple [int (gm m i).1,int (gm m i).2].toArray) aa):az P 36 [agg (bM m aT),int i] H ab:=by
 apply ao2;unfold Yx;have rb:=q8 (aT:=aT) ok.cX;rw[yo];refine ja hO.z ?_;intro cC H hO
 replace hO:aj H (ae++[(cC,⟨bM m aT,true⟩)]):=hO
 refine e6 (fun aF aa=>aF=[int i,ai cC 0,.bool (decide (¬en m\/i<0\/i≥m.bo.length))]/\aj aa (ae++[(cC,⟨bM m aT,true⟩)])) ?_ ?_;refine iQ hO 0 rfl (el ok.cX) (by omega) (Eh ok aD.app hO ?_);intro H hO;refine ah jF ?_;by_cases U:en m;rw[decide_eq_true U];refine et rfl (ah ez (ah mr (bz (fun h=>?_) (fun h=>?_))));exact ah (hT h) (⟨by simp[h],hO⟩);exact ah b0 (cw hO 0 rfl rb (bV aD.bP (ah ss (ah (ho h) (⟨by grind,hO⟩)))));rw[decide_eq_false U];exact fg rfl (ah ll (ah ll (⟨by simp[U],hO⟩)));rintro aF H ⟨rfl,hO⟩
 try simp only[cu,cv]
 unfold gm at ag;refine bz (fun h=>?_) (fun h=>?_);rw[if_pos h]at ag;exact ag H hO.left;rw[if_neg h]at ag;have U:en m:=Classical.byContradiction fun h1=>h (.inl h1)
 obtain⟨di,cP,sq,RS⟩:=GV (i:=i) U (by omega) (by omega);have gg:=U;obtain⟨_,_,_,lA,oU,ep,hl,_,_,aR⟩:=gg;refine ah b0 (cw hO 0 rfl rb (bV aD.bP (ah (mu (by omega) (by omega)) (ah fl (bz (fun h=>?_) (fun h=>?_))))));obtain⟨aW,dJ⟩:=sq h;refine ah b0 (cw hO 0 rfl (v:=int m.bx) rfl (ah (Ep (by omega) (by omega)) (ah b0 (cw hO 0 rfl (v:=int m.cU) rfl (ah b0 (cw hO 0 rfl (v:=int m.bx) rfl (ah (Ep (by omega) (by omega)) (ah (mu (by omega) (by omega)) ?_))))))));have:=ag H hO.left;rw[show min m.bx (m.cU-i*m.bx)=m.cU-i*m.bx by omega]at this;exact this;have aW:=RS h;refine ah b0 (cw hO 0 rfl (v:=int m.bx) rfl (ah (Ep (by omega) (by omega)) (ah b0 (cw hO 0 rfl (v:=int m.bx) rfl ?_))));have:=ag H hO.left;rw[show min m.bx (m.cU-i*m.bx)=m.bx by omega]at this;exact this
end J
namespace J
open Go Go.Ab
variable[cr:bW]
variable{H:ar}{ae L:List (Nat×ay)}{ab:VH}{w x aT:Value}{j p q o n f ba st cN:Nat}{e:Int}{ao bu eP:List Value}{m:dm}{bo:List (List Int)}
theorem awr:(au P .eql 53 true).f bq (.slice none 0 0)=some (.bool true):=by rfl
theorem aws(p o n c:Nat):(au P .eql 53 true).f (aC p o n c) (.slice none 0 0)=some (.bool false):=by rfl
theorem awt(H:ar):(eg P 53 0).f [] H=some (aC H.next 0 0 65,H.push []):=by rfl
theorem aeW(h:∀x∈bo,x.length=32):(fA bo).length=bo.length*32:=by
 induction bo with
 | nil=>rfl
 | cons a bo a7=>grind
theorem awu:(fA bo).all eA=true:=by simp_all[eA]
theorem aeX(aD:eY ae aT bo)(awv:∀x∈bo,x.length=32)(aR:bo.length<=10000)(hO:aj H ae)
  (ag:∀aa aH,aj aa (ae++bB aH (fA bo))->eY (bB aH (fA bo)) aH bo->ab aH aa):az P 148 [aT] H ab:=by
 apply aqx;unfold aai;have aE:=aeW awv;rcases aD with⟨rfl,rfl⟩|⟨p,c,j,w,rfl,bh⟩
 exact ah awr (fg rfl (ag H bq hO.z eY.nil));refine ah (aws _ _ _ _) (et rfl (gj hO (awt _) ?_));intro q H hO;by_cases aN:bo=[];subst aN;exact bV (show _=some (aC q 0 0 65,H)from rfl) (ag H (aC q 0 0 65) hO (.inr ⟨q,65,0,true,rfl,rfl⟩));have Bi:0<bo.length:=length_pos_iff.2 aN;have hg:H.get p=some ⟨fA bo,w⟩:=hO.at j (aK bh) (.inr fun e=>by grind);have he:r7 H 32 bo.length (aC p 0 bo.length c)=some (fA bo):=by simp_all[Dq,take_of_length_le]
 have de:aj H (ae++bB (aC q 0 0 65) []):=hO;refine OB (n:=0) (m:=bo.length) (ao:=[]) (cL:=fA bo) de (.inr ⟨q,.inr rfl,rfl⟩) (by omega) rfl he Bi (by omega) (by omega) awu aE ?_;intro q2 H hO _;rw[Nat.zero_add];exact ag H (aC q2 0 bo.length 64) hO (.inr ⟨q2,64,0,true,rfl,rfl⟩)
def jz(m:dm)(aT:Value)(ba cN:Nat):List Value:=bM m aT++[ai ba 0,int cN]
theorem aww(aO:m.cD.length=32)(a:Option Addr)(n c:Nat):(c9 P 357).f [(0,agg (bM m (.slice a n c))),(1,ai ba 0)]=some (agg (jz m (.slice a n c) ba 0)):=by
 obtain⟨cE,eb,cU,bx,cD,bo⟩:=m;have aO:cD.length=32:=aO
 match cD,aO with
 | [a0,c1,c2,a3,a4,a5,kC,lW,nu,a9,Rh,Ri,Rj,Rk,Rl,Rm,Bu,Rn,Ro,Rp,a20,a21,Rq,Rr,Rs,Rt,Ru,Rv,Rw,Rx,Ry,Rz],_=>rfl
theorem awx(ok:m.b6)(aD:eY ae aT m.bo)(U:en m)(hO:aj H ae)
  (ag:∀aa l9 ba L st,ju ba [] L->eY (bB l9 (fA m.bo)) l9 m.bo->aj aa ((ae++bB l9 (fA m.bo))++(L++[(st,⟨jz m l9 ba 0,true⟩)]))->ab (.tuple [ai st 0,int 0].toArray) aa):az P 198 [agg (bM m aT)] H ab:=by
 apply aq2;unfold aaQ;have rb:=q8 (aT:=aT) ok.cX;have yY:=el (aT:=aT) ok.cX;rw[yo];refine ja hO.z ?_;intro cC H hO
 replace hO:aj H (ae++[(cC,⟨bM m aT,true⟩)]):=hO
 refine iQ hO 0 rfl yY (by omega) (Eg ok aD.app hO ?_);intro H hO;rw[decide_eq_true U];refine ah jF (et rfl (ah b0 (cw hO 0 rfl rb (aeX aD.app ok.dN ok.n hO ?_))));intro H dS hO h1;refine ah b0 ?_;refine fm hO (ae.length+0) (aK (aA rfl)) h1.e5 (by omega) (bu:=bM m dS) (by simp_all[bM]) ?_;intro H hO;rw[set_append_left _ _ (by simp),Go.Ab.cb]at hO
 replace hO:aj H ((ae++[(cC,⟨bM m dS,true⟩)])++bB dS (fA m.bo)):=hO
 refine fs hO (ae.length+0) (aK (aA rfl)) (el ok.cX) (by omega) ?_;have eh:=hO;refine KX hO ?_;intro cB ba hO;refine⟨gu eh (ae.length+0) (aK (aA rfl)) hO (ae.length+0) (aK (aK (aA rfl))) (yn h1.q9),?_⟩;obtain⟨c1,eZ,eP,rfl⟩:=h1.kz;refine ah (aww ok.cX _ _ _) ?_;rw[ri];refine c4 hO ?_;intro st H hO;refine ag H _ ba (nb ba (mx []) bq ([]:List Int).length []) st ⟨_,_,rfl,.inl ⟨rfl,rfl,rfl⟩⟩ h1 ?_;exact hO.sub (by simp only[append_assoc];exact List.Sublist.append (List.Sublist.refl ae) (sublist_append_right [(cC,_)] _))
end J
namespace J
open Go Go.Ab
variable[cr:bW]
variable{H:ar}{ae L:List (Nat×ay)}{ab:VH}{w aT:Value}{ak aX b:List Int}{i p q n k ba st cN:Nat}{e:Int}{m:dm}{bo:List (List Int)}
theorem Lt(aO:m.cD.length=32):(jz m aT ba cN)[0+38]?=some (int cN):=by simp_all[jz,el]
theorem aeY(aO:m.cD.length=32):(jz m aT ba cN)[0+37]?=some (ai ba 0):=by simp_all[jz,el]
theorem aeZ(aO:m.cD.length=32):(jz m aT ba cN)[0+0+36]?=some aT:=by grind[jz,q8]
theorem awy(aO:m.cD.length=32):((jz m aT ba cN).drop (0+0)).take 37=bM m aT:=by simp_all[jz,el]
theorem awz(aO:m.cD.length=32):((jz m aT ba cN).drop (0+0+4)).take 32=a1 m.cD:=by simp_all[jz,drop_append_of_le_length,el,take_append_of_le_length,adW]
theorem awA(aO:m.cD.length=32):(jz m aT ba cN).set (0+38) (int ((cN+1:Nat):Int))=jz m aT ba (cN+1):=by simp_all[jz,el]
theorem awB(aO:m.cD.length=32):(jz m aT ba cN).length=39:=by simp_all[jz,el]
theorem ae0(aO:m.cD.length=32)(h:fE aT=true):(jz m aT ba cN).all fE=true:=by unfold jz;rw[all_append,yn h];rfl
theorem awC:(fA bo).all fE=true:=by
 induction bo with
 | nil=>rfl
 | cons a bo a7=>
  show(a1 a++fA bo).all fE=true
  grind[zA]
theorem GX{aa:ar}{eS:ay}{fc:Nat}(hO:aj H ae)(aq:ae[i]?=some (p,eS))(n:Nat):l8 (b9 [ai p fc]) H.next n:=by
 have h:=hO.lt (p,eS) (mem_of_getElem? aq);show jM _ [p]=true
 simp_all[j0]
theorem RT(aO:m.cD.length=32)(aD:eY ae aT m.bo)(hO:aj H ae)(aq:ae[i]?=some (st,⟨jz m aT ba cN,true⟩))(ag:ab (.bool (decide (cN=m.bo.length))) H):az P 191 [ai st 0] H ab:=by apply aqV;unfold aaJ;refine aU (aP hO i aq (Lt aO) (aU (ah b0 (aP hO i aq (aeZ aO) (bV aD.bP (ah fl ?_))))));rw[decide_eq_decide.2 (show((cN:Int)=(m.bo.length:Int))↔cN=m.bo.length by omega)];exact ag
theorem awD(aO:m.cD.length=32)(hO:aj H ae)(aq:ae[i]?=some (st,⟨jz m aT ba cN,true⟩))(ag:ab (int cN) H):az P 192 [ai st 0] H ab:=by apply aqW;unfold aaK;exact aU (aP hO i aq (Lt aO) ag)
theorem awE(ok:m.b6)(aD:eY ae aT m.bo)(hO:aj H (ae++L))(aq:ae[i]?=some (st,⟨jz m aT ba cN,true⟩))(rj:ju ba ak L)(al:cl ak)(aE:ak.length<=1000000)
  (ag:∀aa,aj aa (ae++L)->ab (.bool (decide (cN=m.bo.length/\hr ak=m.cD))) aa):az P 193 [ai st 0] H ab:=by
 apply aqX;unfold aaL;refine RT ok.cX aD.app hO (aK aq) (bz (fun h=>?_) (fun h=>?_));refine aU (aP hO i (aK aq) (aeY ok.cX) ?_);have eh:=hO;refine K0 hO rj al (by omega) ?_;intro cB hO;refine aU (ah b0 (hG hO i (aK aq) (awz ok.cX) (by rw[nx];exact ok.cX) (by omega) (⟨gu eh i (aK aq) hO i (aK aq) (ae0 ok.cX aD.q9),?_⟩)));refine ah (avl _ pO ok.cX) (ah (hT h) ?_);have:=ag cB hO;rw[decide_eq_decide.2 (show(cN=m.bo.length/\hr ak=m.cD)↔hr ak=m.cD from⟨fun h=>h.2,fun h2=>⟨h,h2⟩⟩)]at this;exact this;refine ah (ho h) ?_;have:=ag H hO;rw[decide_eq_false (fun h2=>h h2.1)]at this;exact this
theorem awF(ok:m.b6)(U:en m)(aD:eY ae aT m.bo)(hO:aj H (ae++L))(aq:ae[i]?=some (st,⟨jz m aT ba cN,true⟩))(rj:ju ba ak L)(al:cl ak)(aE:ak.length<=1000000)
  (aM:b3 ae w aX) (a8:cl aX) (fU:aX.length<=1000000) (Er:cN<m.bo.length)
  (ey:¬((aX.length:Int)=(gm m cN).2/\hr aX=m.bo[cN])->∀aa,aj aa (ae++L)->ab (int 152) aa)
  (pd:((aX.length:Int)=(gm m cN).2/\hr aX=m.bo[cN])->∀aa cA,ju ba (ak++aX) cA->aj aa (ae.set i (st,⟨jz m aT ba (cN+1),true⟩)++cA)->ab (int 0) aa):
  az P 199 [ai st 0,int cN,w] H ab:=by
 apply aq3;unfold aaR;have sl:=(List.getElem?_eq_some_iff.1 aq).1;refine e6 (fun aF aa=>aF=[ai st 0,int cN,w]/\H=aa) ?_ ?_;exact RT ok.cX aD.app hO (aK aq) (nr (by omega) (aU (aP hO i (aK aq) (Lt ok.cX) (ah ik (ah (ho (by omega)) (nr (fun h=>h rfl) (⟨rfl,rfl⟩)))))));rintro aF aa ⟨rfl,rfl⟩
 try simp only[cu,cv]
 refine e6 (fun aF aa=>aF=[ai st 0,w]/\aj aa (ae++L)/\((aX.length:Int)=(gm m cN).2/\hr aX=m.bo[cN])) ?_ ?_;refine aU (hG hO i (aK aq) (awy ok.cX) (el ok.cX) (by omega) (RR ok aD.app hO ?_));intro H hO;refine ah rfl (ah rfl (bV aM.bP (ah ik (bz (fun h=>?_) (fun h=>?_)))));exact ah (hT h) (fg rfl (ey (fun h2=>h h2.1) H hO));obtain⟨a,k7,b5,rfl⟩:=aM.kz;refine gj hO (adj _ _ _ _) ?_;have nP:=hO;intro q br hO;have eh:=hO;refine QK hO (aA (ae:=ae++L) (k:=0) rfl) aM.app.app a8 (by omega) ?_;intro cB hO;refine aU (ah b0 (aP hO i (aK (aK aq)) (aeZ ok.cX) (⟨gu eh i (aK (aK aq)) hO i (aK (aK aq)) (ae0 ok.cX aD.q9),GX (aa:=H) nP (aK aq) _,?_⟩)));obtain⟨cF,cc,BR,jw,rfl,Es⟩:=aD.aZ (by omega);refine ah (h4 (by omega) (by omega)) (hG hO BR (aK (aK Es)) (Rb ok.dN (y:=cN) Er) (by rw[nx];exact ok.dN _ (getElem_mem Er)) (by omega) ?_);have da:(⟨fA m.bo,jw⟩:ay).wr=true\/(⟨fA m.bo,jw⟩:ay).cells≠[]:=.inr fun e=>by
  have e:fA m.bo=[]:=e;have:=aeW ok.dN
  grind
 refine⟨gu eh BR (aK (aK Es)) hO BR (aK (aK Es)) awC da,GX (aa:=H) nP (aK Es) _,?_⟩;refine ah (K7 _ pO (ok.dN _ (getElem_mem Er))) (ah (ho h) (bz (fun h2=>?_) (fun h2=>?_)));exact ey (fun aB=>h2 aB.2) cB hO.left;exact⟨rfl,hO.left,by omega,Classical.not_not.1 h2⟩;rintro aF H ⟨rfl,hO,ys⟩
 try simp only[cu,cv]
 refine aU (aP hO i (aK aq) (aeY ok.cX) (yj hO rj aM al a8 (by omega) (by omega) ?_));intro H cA hO RU;refine aU (aP hO i (aK aq) (Lt ok.cX) ?_);have aR:=ok.n;refine ah (rY (b:=1) (by omega)) (aU (fm hO i (aK aq) rfl (by rw[awB ok.cX];omega) (awA ok.cX) ?_));intro H hO;rw[set_append_left _ _ sl]at hO;exact pd ys H cA RU hO
end J
namespace J
open Go Go.Ab
variable[cr:bW]
end J
namespace J
open Go Go.Ab
variable[cr:bW]
variable{H:ar}{S T eN:List (Nat×ay)}{ab:VH}{v aT kv bY ct:Value}{bs:List Int}{p q r n k f ba st cN c:Nat}{e bA:Int}{ao bx:List Value}{m aI:dm}{t:kJ}{aJ:List (List Value)}{dg:List Value}{bo:List (List Int)}{dK:Bool}
inductive j5 where
 | rk (a:Int)
 | nn (n:Int) (m:dm)
 | body (a:Int) (bs:List Int)
 | ed
def vI(S:List (Nat×ay)):j5->List Value->Prop
 | .rk a,dg=>dg=[.iface 313 (agg [int a])]
 | .nn n m,dg=>∃aT,dg=[.iface 316 (agg (int n::bM m aT))]/\eY S aT m.bo/\m.b6
 | .body a bs,dg=>∃v,dg=[.iface 327 (agg [int a,v])]/\b3 S v bs/\cl bs
 | .ed,dg=>dg=[.iface 320 (agg [])]
def BY(S:List (Nat×ay))(p:Int×List Int)(dg:List Value):Prop:=∃v,dg=[int p.1,v]/\b3 S v p.2/\cl p.2/\(p.2≠[]->qo S v)
structure gB where
 q:Nat
 r:Nat
 n:Nat
 f:Nat
 ao:List Value
 aJ:List (List Value)
def eU(kv:Value)(t:kJ)(r1 r2 fe:Nat)(aI:dm)(bY ct:Value)(dK:Bool)(bA:Int):List Value:=
 kv::bl t.cE::bQ .u64 t.ck::int t.wo::ai r1 0::ai r2 0::ai fe 0::(bM aI bY++[ct,.bool dK,int bA])
def gY(A B C:gB)(c:Nat)(bx:List Value)(T:List (Nat×ay)):List (Nat×ay):=
 (A.q,⟨A.ao,true⟩)::(A.r,⟨cY A.q A.n 2 A.f A.aJ.length,true⟩)::(B.q,⟨B.ao,true⟩)::(B.r,⟨cY B.q B.n 1 B.f B.aJ.length,true⟩)::(C.q,⟨C.ao,true⟩)::(C.r,⟨cY C.q C.n 1 C.f C.aJ.length,true⟩)::(c,⟨bx,true⟩)::T
variable{A B C:gB}{r1 r2 fe:Nat}
theorem RV(aO:aI.cD.length=32)(k:Nat):(eU kv t r1 r2 fe aI bY ct dK bA)[0+(44+k)]?=[ct,Value.bool dK,int bA][k]?:=by
 unfold eU;rw[show 0+(44+k)=(37+k)+7 by omega];show(bM aI bY++[ct,Value.bool dK,int bA])[37+k]?=_
 simp_all[List.getElem?_append_right,el]
theorem BZ(aO:aI.cD.length=32):(eU kv t r1 r2 fe aI bY ct dK bA)[0+44]?=some ct:=RV aO 0
theorem awG(aO:aI.cD.length=32):(eU kv t r1 r2 fe aI bY ct dK bA)[0+45]?=some (.bool dK):=RV aO 1
theorem ae1(aO:aI.cD.length=32):(eU kv t r1 r2 fe aI bY ct dK bA)[0+46]?=some (int bA):=RV aO 2
theorem GY(aO:aI.cD.length=32):(eU kv t r1 r2 fe aI bY ct dK bA).length=47:=by simp_all[eU,el]
theorem RW(aO:aI.cD.length=32)(k:Nat)(v:Value):(eU kv t r1 r2 fe aI bY ct dK bA).set (0+(44+k)) v=kv::bl t.cE::bQ .u64 t.ck::int t.wo::ai r1 0::ai r2 0::ai fe 0::(bM aI bY++[ct,Value.bool dK,int bA].set k v):=by
 unfold eU;rw[show 0+(44+k)=(37+k)+7 by omega];show kv::bl t.cE::bQ .u64 t.ck::int t.wo::ai r1 0::ai r2 0::ai fe 0::((bM aI bY++[ct,Value.bool dK,int bA]).set (37+k) v)=_
 simp_all[el]
theorem awH(aO:aI.cD.length=32)(v:Value):(eU kv t r1 r2 fe aI bY ct dK bA).set (0+44) v=eU kv t r1 r2 fe aI bY v dK bA:=RW aO 0 v
theorem awI(aO:aI.cD.length=32)(d:Bool):(eU kv t r1 r2 fe aI bY ct dK bA).set (0+45) (.bool d)=eU kv t r1 r2 fe aI bY ct d bA:=RW aO 1 _
theorem ae2(aO:aI.cD.length=32)(e:Int):(eU kv t r1 r2 fe aI bY ct dK bA).set (0+46) (int e)=eU kv t r1 r2 fe aI bY ct dK e:=RW aO 2 _
theorem awJ(aO:aI.cD.length=32):((eU kv t r1 r2 fe aI bY ct dK bA).drop (0+7)).take 37=bM aI bY:=by
 unfold eU;show(bM aI bY++[ct,Value.bool dK,int bA]).take 37=_
 simp_all[el]
def vJ(st:Nat)(m:dm)(aT:Value)(ba cN:Nat)(eN:List (Nat×ay)):List (Nat×ay):=(st,⟨jz m aT ba cN,true⟩)::eN
theorem awK(c:Bool)(p:Nat):(au P .eql 251 c).f (ai p 0) (.pointer none)=some (.bool false):=by rfl
theorem awL:(au P .eql 251 true).f (.pointer none) (.pointer none)=some (.bool true):=by rfl
theorem awM(aO:aI.cD.length=32)(hO:aj H (S++gY A B C c (eU kv t r1 r2 fe aI bY (.pointer none) dK bA) T))(ag:ab (int (-1)) H):az P 134 [ai c 0] H ab:=by apply ZQ;unfold PY;exact aU (cw hO 6 rfl (BZ aO) (ah awL (fg rfl ag)))
theorem awN(aO:aI.cD.length=32)(hm:m.cD.length=32)(aD:eY S aT m.bo)(hO:aj H (S++gY A B C c (eU kv t r1 r2 fe aI bY (ai st 0) dK bA) (vJ st m aT ba cN eN)))(ag:ab (int (if cN=m.bo.length then-2 else(cN:Int))) H):az P 134 [ai c 0] H ab:=by apply ZQ;unfold PY;have aq:(S++gY A B C c (eU kv t r1 r2 fe aI bY (ai st 0) dK bA) (vJ st m aT ba cN eN))[S.length+7]?=some (st,⟨jz m aT ba cN,true⟩):=aA rfl;refine aU (cw hO 6 rfl (BZ aO) (ah (awK _ _) (et rfl (aU (cw hO 6 rfl (BZ aO) (RT hm aD.app hO aq (bz (fun h=>?_) (fun h=>?_))))))));rw[if_pos h]at ag;exact ag;rw[if_neg h]at ag;exact aU (cw hO 6 rfl (BZ aO) (awD hm hO aq ag))
end J
namespace J
open Go Go.Ab
variable[cr:bW]
variable{H:ar}{S T eN:List (Nat×ay)}{ab:VH}{v w aT kv bY:Value}{ak aX:List Int}{i j q r n f ba st cN c:Nat}{e bA:Int}{ao bu bx:List Value}{m aI:dm}{t:kJ}{aJ:List (List Value)}{dg:List Value}{bo:List (List Int)}{dK:Bool}{A B C:gB}{r1 r2:Nat}
def gB.kZ(R:gB)(bu:List Value)(dg:List Value):gB:=⟨R.q,R.r,R.n,R.f,bu,R.aJ++[dg]⟩
theorem RX(R:gB):(R.kZ bu dg).aJ.length=R.aJ.length+1:=by simp[gB.kZ]
theorem RY(h:aj H (S++((gY A B C c bx T).set 4 (C.q,⟨bu,true⟩)).set 5 (C.r,⟨cY C.q C.n 1 C.f (C.aJ.length+1),true⟩))):aj H (S++gY A B (C.kZ bu dg) c bx T):=by unfold gY;rw[RX];exact h
theorem RZ(h:aj H (S++((gY A B C c bx T).set 2 (B.q,⟨bu,true⟩)).set 3 (B.r,⟨cY B.q B.n 1 B.f (B.aJ.length+1),true⟩))):aj H (S++gY A (B.kZ bu dg) C c bx T):=by unfold gY;rw[RX];exact h
theorem GZ{dW:List (Nat×ay)}(h:aj H (S++gY A B C c bx T))(aw:dW.Sublist T):aj H (S++gY A B C c bx dW):=
 h.sub (List.Sublist.append (List.Sublist.refl _) ((((((((aw.cons_cons _).cons_cons _).cons_cons _).cons_cons _).cons_cons _).cons_cons _).cons_cons _)))
theorem G0{dW:List (Nat×ay)}:S++gY A B C c bx (T++dW)=(S++gY A B C c bx T)++dW:=by rw[append_assoc];rfl
theorem awO:(c9 P 320).f []=some (agg []):=by rfl
theorem ae3(a:Int):(c9 P 313).f [(0,int a)]=some (agg [int a]):=by rfl
theorem awP(e:Int)(a:Option Addr)(n c:Nat):(c9 P 327).f [(0,int e),(1,.slice a n c)]=some (agg [int e,.slice a n c]):=by rfl
theorem awQ(aO:aI.cD.length=32)(ok:m.b6)(aD:eY S aT m.bo)(hO:aj H (S++gY A B C c (eU kv t r1 r2 C.r aI bY (ai st 0) dK bA) (vJ st m aT ba cN eN)))(j1:iF 1 C.n C.f C.aJ C.ao)(rj:ju ba ak eN)(al:cl ak)(aE:ak.length<=1000000)
  (awR:C.aJ.length=C.n->ab (.bool false) H)
  (jW:C.aJ.length<C.n->¬(cN=m.bo.length/\hr ak=m.cD)->∀aa,aj aa (S++gY A B C c (eU kv t r1 r2 C.r aI bY (ai st 0) dK 153) (vJ st m aT ba cN eN))->ab (.bool true) aa)
  (eL:C.aJ.length<C.n->(cN=m.bo.length/\hr ak=m.cD)->∀aa bu,iF 1 C.n C.f (C.aJ++[[.iface 320 (agg [])]]) bu->aj aa (S++gY A B (C.kZ bu [.iface 320 (agg [])]) c (eU kv t r1 r2 C.r aI bY (ai st 0) true bA) (vJ st m aT ba cN eN))->ab (.bool true) aa):
  az P 135 [ai c 0] H ab:=by
 apply aqg;unfold ZR;have nR:=j1.rh;refine aU (cw hO 6 rfl (v:=ai C.r 0) rfl (Ls (i:=5) hO rfl j1.rh j1.uB (ah fl (bz (fun h=>?_) (fun h=>?_)))));exact awR (by omega);have dy:C.aJ.length<C.n:=by omega
 refine aU (cw hO 6 rfl (BZ aO) ?_);have de:aj H ((S++gY A B C c (eU kv t r1 r2 C.r aI bY (ai st 0) dK bA) [(st,⟨jz m aT ba cN,true⟩)])++eN):=by rw[<- G0];exact hO
 refine awE (i:=S.length+7) ok aD.app de (aA rfl) rj al aE ?_;intro H hO;rw[<- G0]at hO
 replace hO:aj H (S++gY A B C c (eU kv t r1 r2 C.r aI bY (ai st 0) dK bA) (vJ st m aT ba cN eN)):=hO
 refine ah jF (qf (fun h2=>?_) (fun h2=>?_));have h2:¬(cN=m.bo.length/\hr ak=m.cD):=fun aB=>by simp_all
 refine aU (di hO 6 rfl rfl (by grind[GY]) ?_);intro H hO;rw[ae2 aO]at hO;exact jW dy h2 H hO;have h2:cN=m.bo.length/\hr ak=m.cD:=Classical.byContradiction fun aB=>by simp_all
 refine aU (cw hO 6 rfl (v:=ai C.r 0) rfl (ah awO (Eo (i:=5) (j:=4) hO rfl rfl (by omega) j1 rfl (fun aB=>absurd aB (by omega)) ?_)));intro _ H bu G1 hO
 replace hO:=RY (dg:=[.iface 320 (agg [])]) hO
 refine aU (di hO 6 rfl rfl (by grind[GY]) ?_);intro H hO;rw[awI aO]at hO;exact eL dy h2 H bu G1 hO
theorem awS(aO:aI.cD.length=32)(ok:m.b6)(U:en m)(aD:eY S aT m.bo)(hO:aj H (S++gY A B C c (eU kv t r1 B.r C.r aI bY (ai st 0) dK bA) (vJ st m aT ba cN eN)))(dP:iF 1 B.n B.f B.aJ B.ao)(j1:iF 1 C.n C.f C.aJ C.ao)(rj:ju ba ak eN)(al:cl ak)(aE:ak.length<=1000000)
  (aM:b3 S w aX) (a8:cl aX) (fU:aX.length<=1000000) (Er:cN<m.bo.length) (je:B.aJ.length<B.n) (qM:C.aJ.length<C.n)
  (ey:¬((aX.length:Int)=(gm m cN).2/\hr aX=m.bo[cN])->∀aa bu,iF 1 B.n B.f (B.aJ++[[.iface 313 (agg [int cN])]]) bu->aj aa (S++gY A (B.kZ bu [.iface 313 (agg [int cN])]) C c (eU kv t r1 B.r C.r aI bY (ai st 0) dK bA) (vJ st m aT ba cN eN))->ab (.tuple [].toArray) aa)
  (pd:((aX.length:Int)=(gm m cN).2/\hr aX=m.bo[cN])->∀aa bu cA,ju ba (ak++aX) cA->iF 1 C.n C.f (C.aJ++[[.iface 327 (agg [int cN,w])]]) bu->aj aa (S++gY A B (C.kZ bu [.iface 327 (agg [int cN,w])]) c (eU kv t r1 B.r C.r aI bY (ai st 0) dK bA) (vJ st m aT ba (cN+1) cA))->ab (.tuple [].toArray) aa):
  az P 140 [ai c 0,agg [int cN,w]] H ab:=by
 apply aql;unfold ZW;obtain⟨vK,vL,vM,rfl⟩:=aM.kz;rw[ri];refine c4 hO ?_;intro eX H hO;have de:aj H (((S++gY A B C c (eU kv t r1 B.r C.r aI bY (ai st 0) dK bA) [(st,⟨jz m aT ba cN,true⟩)])++[(eX,⟨[int cN,.slice vK vL vM],true⟩)])++eN):=by refine GD ?_;rw[<- G0];exact hO
 have hO:=de;have aq:((S++gY A B C c (eU kv t r1 B.r C.r aI bY (ai st 0) dK bA) [(st,⟨jz m aT ba cN,true⟩)])++[(eX,(⟨[int cN,.slice vK vL vM],true⟩:ay))])[S.length+7]?=some (st,⟨jz m aT ba cN,true⟩):=aK (aA rfl);refine aU (aP hO (S.length+6) (aK (aK (aA rfl))) (BZ aO) (ah b0 (aP hO (_+0) (aK (aA rfl)) (v:=int cN) rfl (ah b0 (aP hO (_+0) (aK (aA rfl)) (v:=.slice vK vL vM) rfl (awF ok U aD.app.app hO aq rj al aE aM.app.app a8 fU Er ?_ ?_))))));clear hO;intro hg H hO;rw[append_assoc,<- G0]at hO
 replace hO:aj H (S++gY A B C c (eU kv t r1 B.r C.r aI bY (ai st 0) dK bA) ((st,⟨jz m aT ba cN,true⟩)::(eX,⟨[int cN,.slice vK vL vM],true⟩)::eN)):=hO
 refine ah ik (rK (by decide) (aU (cw hO 6 rfl (v:=ai B.r 0) rfl (ah b0 (cw hO 8 rfl (v:=int cN) rfl (ah (ae3 _) (Eo (i:=3) (j:=2) hO rfl rfl (by omega) dP rfl (fun aB=>absurd aB (by omega)) ?_)))))));intro _ H bu G2 hO
 replace hO:=RZ (dg:=[.iface 313 (agg [int cN])]) hO
 exact ey hg H bu G2 (GZ hO ((sublist_cons_self _ _).cons_cons _));clear hO;intro hg H cA RU hO;rw[set_append_left _ _ (by simp[gY]),Go.Ab.cb,append_assoc]at hO
 replace hO:aj H ((S++gY A B C c (eU kv t r1 B.r C.r aI bY (ai st 0) dK bA) [(st,⟨jz m aT ba (cN+1),true⟩)])++([(eX,⟨[int cN,.slice vK vL vM],true⟩)]++cA)):=hO
 rw[<- G0]at hO
 replace hO:aj H (S++gY A B C c (eU kv t r1 B.r C.r aI bY (ai st 0) dK bA) ((st,⟨jz m aT ba (cN+1),true⟩)::(eX,⟨[int cN,.slice vK vL vM],true⟩)::cA)):=hO
 refine ah ik (nr (fun h=>h rfl) (aU (cw hO 6 rfl (v:=ai C.r 0) rfl (ah b0 (cw hO 8 rfl (v:=int cN) rfl (ah b0 (cw hO 8 rfl (v:=.slice vK vL vM) rfl (ah (awP _ _ _ _) (Eo (i:=5) (j:=4) hO rfl rfl (by omega) j1 rfl (fun aB=>absurd aB (by omega)) ?_)))))))));intro _ H bu G1 hO
 replace hO:=RY (dg:=[.iface 327 (agg [int cN,.slice vK vL vM])]) hO
 exact pd hg H bu cA RU G1 (GZ hO ((sublist_cons_self _ _).cons_cons _))
end J
namespace J
open Go Go.Ab
variable[cr:bW]
variable{H:ar}{S:List (Nat×ay)}{aT kv bY ct:Value}{n k f c:Nat}{e bA:Int}{bx:List Value}{m aI:dm}{t:kJ}{bo:List (List Int)}{dK:Bool}{r1 r2 fe:Nat}
theorem awT{X ev:List (Nat×ay)}(h:aj H ((S++ev)++X)):aj H ((S++X)++ev):=h.e4 (by rw[append_assoc,append_assoc];exact List.Perm.append_left S perm_append_comm)
theorem awU(aO:aI.cD.length=32):((eU kv t r1 r2 fe aI bY ct dK bA).drop (0+1)).take 3=qq t:=rfl
theorem awV(aO:aI.cD.length=32)(hm:m.cD.length=32):(eU kv t r1 r2 fe aI bY ct dK bA).take (0+7)++(bM m aT++(eU kv t r1 r2 fe aI bY ct dK bA).drop (0+7+37))=eU kv t r1 r2 fe m aT ct dK bA:=by
 unfold eU;have e:(kv::bl t.cE::bQ .u64 t.ck::int t.wo::ai r1 0::ai r2 0::ai fe 0::(bM aI bY++[ct,Value.bool dK,int bA])).drop (0+7+37)=[ct,Value.bool dK,int bA]:=by
  show((bM aI bY++[ct,Value.bool dK,int bA])).drop 37=_
  simp_all[el]
 rw[e];rfl
theorem ae4(aO:m.cD.length=32)(n:Int)(a:Option Addr)(k c:Nat):(c9 P 316).f [(0,int n),(1,agg (bM m (.slice a k c)))]=some (agg (int n::bM m (.slice a k c))):=by
 obtain⟨cE,eb,cU,bx,cD,bo⟩:=m;have aO:cD.length=32:=aO
 match cD,aO with
 | [a0,c1,c2,a3,a4,a5,kC,lW,nu,a9,Rh,Ri,Rj,Rk,Rl,Rm,Bu,Rn,Ro,Rp,a20,a21,Rq,Rr,Rs,Rt,Ru,Rv,Rw,Rx,Ry,Rz],_=>rfl
end J
namespace J
open Go Go.Ab
variable[cr:bW]
variable{H:ar}{S eN:List (Nat×ay)}{ab:VH}{v w aT kv bY:Value}{b key:List Int}{i j r n f ba st c:Nat}{bA:Int}{ao bu:List Value}{m aI:dm}{t:kJ}{aJ:List (List Value)}{dg:List Value}{bo:List (List Int)}{dK:Bool}{A B C:gB}{r1:Nat}
theorem awW:qs m t=0↔en m/\hs m.cE=hs t.cE/\¬m.eb<t.ck/\¬m.cU>t.wo:=by
 unfold qs
 grind
theorem awX(aO:aI.cD.length=32)(hO:aj H (S++gY A B C c (eU kv t r1 B.r C.r aI bY (.pointer none) dK bA) []))(dP:iF 1 B.n B.f B.aJ B.ao)(j1:iF 1 C.n C.f C.aJ C.ao)
  (vq:b3 S kv key) (an:cl key) (nR:key.length<=1000000) (aM:b3 S w b) (mw:cl b) (o3:b.length<=1000000) (ht:t.cE.length<=1000000) (je:B.aJ.length<B.n) (qM:C.aJ.length<C.n)
  (jW:(fh key b).2.2≠0->∀aa bu,iF 1 B.n B.f (B.aJ++[[.iface 313 (agg [int (-1)])]]) bu->aj aa (S++gY A (B.kZ bu [.iface 313 (agg [int (-1)])]) C c (eU kv t r1 B.r C.r aI bY (.pointer none) dK bA) [])->ab (.tuple [].toArray) aa)
  (awY:(fh key b).2.2=0->qs (fh key b).1 t≠0->∀aa,aj aa (S++gY A B C c (eU kv t r1 B.r C.r aI bY (.pointer none) dK (qs (fh key b).1 t)) [])->ab (.tuple [].toArray) aa)
  (eL:(fh key b).2.2=0->qs (fh key b).1 t=0->en (fh key b).1->∀aa X aT nS st ba eN kR Ec,ju ba [] eN->eY X aT (fh key b).1.bo->eY X nS (fh key b).1.bo->
   iF 1 B.n B.f (B.aJ++[[.iface 316 (agg (int (fh key b).2.1::bM (fh key b).1 aT))]]) kR->iF 1 C.n C.f (C.aJ++[[.iface 316 (agg (int (fh key b).2.1::bM (fh key b).1 aT))]]) Ec->
   aj aa ((S++X)++gY A (B.kZ kR [.iface 316 (agg (int (fh key b).2.1::bM (fh key b).1 aT))]) (C.kZ Ec [.iface 316 (agg (int (fh key b).2.1::bM (fh key b).1 aT))]) c (eU kv t r1 B.r C.r (fh key b).1 aT (ai st 0) dK bA) (vJ st (fh key b).1 nS ba 0 eN))->ab (.tuple [].toArray) aa):
  az P 139 [ai c 0,w] H ab:=by
 apply aqk;unfold ZV;have ok:=aew (key:=key) mw o3;have uc:=RH (key:=key) mw o3;refine aU (cw hO 6 rfl (v:=kv) rfl (avV hO vq.app aM.app an mw nR o3 ?_));intro H aT hO h1;generalize fh key b=hn at*;obtain⟨m,CN,dZ⟩:=hn;simp only at*;have hO:=awT hO;have G3:eY (S++bB aT (fA m.bo)) aT m.bo:=h1.app';generalize vA:bB aT (fA m.bo)=X at*;refine ah av0 (ah av1 (ah av2 ?_));rw[yr];refine ja hO ?_;intro cM H hO
 replace hO:aj H ((S++X)++gY A B C c (eU kv t r1 B.r C.r aI bY (.pointer none) dK bA) [(cM,⟨bM cT bq,true⟩)]):=hO
 refine kq hO 7 rfl rfl (el ok.cX) (nf h1.e5) ?_;intro H hO
 replace hO:aj H ((S++X)++gY A B C c (eU kv t r1 B.r C.r aI bY (.pointer none) dK bA) [(cM,⟨bM m aT,true⟩)]):=hO
 refine ah ik (bz (fun he=>?_) (fun he=>?_));refine aU (cw hO 6 rfl (v:=ai B.r 0) rfl (ah (ae3 _) (Eo (i:=3) (j:=2) hO rfl rfl (by omega) dP rfl (fun aB=>absurd aB (by omega)) ?_)));intro _ H bu G2 hO
 replace hO:=GZ (RZ (dg:=[.iface 313 (agg [int (-1)])]) hO) (nil_sublist _)
 refine jW he H bu G2 ?_;rw[append_assoc]at hO;exact QT hO;have he:dZ=0:=Classical.not_not.1 he;refine iQ hO 7 rfl (el ok.cX) (by omega) (aU (hG hO ((S++X).length+6) (aA rfl) (awU aO) rfl (by omega) (awg ok G3.app ht hO ?_)));intro H hO;refine ah ik (bz (fun bp=>?_) (fun bp=>?_));refine aU (di hO 6 rfl rfl (by grind[GY]) ?_);intro H hO;rw[ae2 aO]at hO
 replace hO:aj H ((S++X)++gY A B C c (eU kv t r1 B.r C.r aI bY (.pointer none) dK (qs m t)) [(cM,⟨bM m aT,true⟩)]):=hO
 refine awY he bp H ?_;have hO:=GZ hO (nil_sublist _);rw[append_assoc]at hO;exact QT hO;have bp:qs m t=0:=Classical.not_not.1 bp;have U:en m:=(awW.1 bp).1;refine iQ hO 7 rfl (el ok.cX) (by omega) (aU (o0 hO ((S++X).length+6) (aA rfl) (el ok.cX) (by grind[GY]) (nf h1.e5) ?_));intro H hO
 replace hO:=hO.cb
 rw[ri,awV aO ok.cX]at hO
 replace hO:aj H ((S++X)++gY A B C c (eU kv t r1 B.r C.r m aT (.pointer none) dK bA) [(cM,⟨bM m aT,true⟩)]):=hO
 refine iQ hO 7 rfl (el ok.cX) (by omega) (awx ok G3.app U hO ?_);intro H nS ba eN st rj h2 hO;generalize aDL:bB nS (fA m.bo)=h5 at*
 replace hO:aj H ((((S++X)++(gY A B C c (eU kv t r1 B.r C.r m aT (.pointer none) dK bA) []++[(cM,⟨bM m aT,true⟩)]))++h5)++(eN++[(st,⟨jz m nS ba 0,true⟩)])):=hO
 have de:aj H ((S++(X++h5))++(gY A B C c (eU kv t r1 B.r C.r m aT (.pointer none) dK bA) []++([(st,⟨jz m nS ba 0,true⟩)]++([(cM,⟨bM m aT,true⟩)]++eN)))):=hO.e4 (by classical exact perm_iff_count.2 fun _=>by grind);have hO:aj H ((S++(X++h5))++gY A B C c (eU kv t r1 B.r C.r m aT (.pointer none) dK bA) ((st,⟨jz m nS ba 0,true⟩)::(cM,⟨bM m aT,true⟩)::eN)):=de;refine ah rfl (ah rfl (aU (di hO 6 rfl rfl (by rw[GY ok.cX];omega) ?_)));intro H hO;rw[awH ok.cX]at hO
 replace hO:aj H ((S++(X++h5))++gY A B C c (eU kv t r1 B.r C.r m aT (ai st 0) dK bA) ((st,⟨jz m nS ba 0,true⟩)::(cM,⟨bM m aT,true⟩)::eN)):=hO
 refine aU (cw hO 6 rfl (v:=ai B.r 0) rfl (iQ hO 8 rfl (el ok.cX) (by omega) ?_));obtain⟨iB,jO,cc,rfl⟩:=h1.kz;refine ah (ae4 ok.cX _ _ _ _) (Eo (i:=3) (j:=2) hO rfl rfl (by omega) dP rfl (fun aB=>absurd aB (by omega)) ?_);intro _ H kR G2 hO
 replace hO:=RZ (dg:=[.iface 316 (agg (int CN::bM m (.slice iB jO cc)))]) hO
 refine aU (cw hO 6 rfl (v:=ai C.r 0) rfl (iQ hO 8 rfl (el ok.cX) (by omega) (ah (ae4 ok.cX _ _ _ _) (Eo (i:=5) (j:=4) hO rfl rfl (by omega) j1 rfl (fun aB=>absurd aB (by omega)) ?_))));intro _ H Ec G1 hO
 replace hO:=RY (dg:=[.iface 316 (agg (int CN::bM m (.slice iB jO cc)))]) hO
 refine eL he bp U H (X++h5) _ nS st ba eN kR Ec rj ?_ ?_ G2 G1 (GZ hO ((sublist_cons_self _ _).cons_cons _));exact h1.app;exact h2.app'
end J
namespace J
open Go Go.Ab
variable[cr:bW]
variable{H:ar}{ae S T:List (Nat×ay)}{ab:VH}{v kv:Value}{key:List Int}{q r n f c:Nat}{e:Int}{bu bx:List Value}{t:kJ}{aJ:List (List Value)}{A B C:gB}{r1 r2 fe:Nat}
def gB.dO(R:gB)(bu:List Value)(R0:List (List Value)):gB:=⟨R.q,R.r,R.n,(R.f+1)%R.n,bu,R0⟩
theorem awZ(h:aj H (S++((gY A B C c bx T).set 0 (A.q,⟨bu,true⟩)).set 1 (A.r,⟨cY A.q A.n 2 ((A.f+1)%A.n) aJ.length,true⟩))):aj H (S++gY (A.dO bu aJ) B C c bx T):=h
theorem aw0(kv:Value)(t:kJ)(r1 r2 fe:Nat)(a:Option Addr)(n c:Nat)(ag:kv=.slice a n c):(c9 P 253).f [(0,kv),(1,agg (qq t)),(2,ai r1 0),(3,ai r2 0),(4,ai fe 0)]=some (agg (eU kv t r1 r2 fe cT bq (.pointer none) false 0)):=by subst ag;rfl
theorem aw1(hO:aj H ae)(vq:b3 ae v key)(nR:key.length<=1000000)
  (ag:∀aa kv mY c,aj aa ((ae++bB kv mY)++[(c,⟨eU kv t r1 r2 fe cT bq (.pointer none) false 0,true⟩)])->e8 kv key mY->ab (ai c 0) aa):az P 81 [v,agg (qq t),ai r1 0,ai r2 0,ai fe 0] H ab:=by
 apply apE;unfold Zc;rw[RN];refine ja hO.z ?_;intro gH H hO
 replace hO:aj H (ae++[(gH,⟨qq t,true⟩)]):=hO
 have eh:=hO;refine Kx hO vq.app (by omega) ?_;intro cB kv mY hO Lu;refine fs hO (ae.length+0) (aK (aA rfl)) (n:=3) rfl (by omega) (⟨gu eh (ae.length+0) (aA rfl) hO (ae.length+0) (aK (aA rfl)) rfl,?_⟩);obtain⟨a,n,b5,e⟩:=Lu.hF.kz;refine ah (aw0 kv t r1 r2 fe a n b5 e) ?_;rw[ri];refine c4 hO ?_;intro c H hO;refine ag H kv mY c (hO.sub ?_) Lu;simp only[append_assoc];exact List.Sublist.append (List.Sublist.refl ae) (sublist_append_right [(gH,_)] _)
end J
