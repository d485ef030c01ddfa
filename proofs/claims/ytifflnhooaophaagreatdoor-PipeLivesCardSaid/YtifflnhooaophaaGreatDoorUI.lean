/- texts of the nf, fh behind the mA -/
import Derived.Test.YtifflnhooaophaaGreatDoorUH
set_option linter.unusedVariables false
set_option linter.unusedSimpArgs false
set_option linter.unusedSectionVars false
set_option maxHeartbeats 4000000
set_option maxRecDepth 100000
open List Nat
namespace J
open Go Go.Ab
variable[cu:b0]
variable{H:au}{ae L:List (Nat×ax)}{aa:VH}{v:Value}{b:List Int}{i j q r n k f cv:Nat}{e:Int}{aq bE:List Value}{l:List UInt8}{aP:List (List Value)}{dR:List Value}
def dp(q n cv f k:Nat):List Value:=[aC q 0 n (2*cv+1),int f,int k,.bool false]
structure jk (cv n f:Nat) (aP:List (List Value)) (aq:List Value):Prop where
 fo:1<=n
 vT:n<=16
 dc:f<n
 r9:aP.length<=n
 len:aq.length=n*cv
 Ds:∀e∈aP,e.length=cv
 k4:∀j (h:j<aP.length),(aq.drop (((f+j)%n)*cv)).take cv=aP[j]
theorem F9(aU:1<=n)(j:Nat):(f+j)%n<n:=mod_lt _ (by omega)
theorem agE{j:Nat}(hf:f<n)(bm:j<n):(f+j)%n=if f+j<n then f+j else f+j-n:=by
 split
 simp_all[mod_eq_of_lt]
 rw[mod_eq_sub_mod (by omega),mod_eq_of_lt (by omega)]
theorem agF{j k:Nat}(hf:f<n)(bm:j<k)(ah:k<n):(f+j)%n≠(f+k)%n:=by
 rw[agE hf ah,agE hf (by omega)]
 grind
theorem agG{a:Nat}(h:a<n)(aD:aq.length=n*cv)(he:dR.length=cv):(aq.take (a*cv)++(dR++aq.drop (a*cv+cv))).length=n*cv:=by
 have:a*cv+cv<=n*cv:=by rw[<- succ_mul];exact mul_le_mul_right _ h
 grind
theorem aym{a:Nat}(h:a<n)(aD:aq.length=n*cv)(he:dR.length=cv):((aq.take (a*cv)++(dR++aq.drop (a*cv+cv))).drop (a*cv)).take cv=dR:=by grind[mul_le_mul_right]
theorem agH{a c:Nat}(h:a<n)(aB:c<n)(dC:a≠c)(aD:aq.length=n*cv)(he:dR.length=cv):((aq.take (a*cv)++(dR++aq.drop (a*cv+cv))).drop (c*cv)).take cv=(aq.drop (c*cv)).take cv:=by
 have h1:a*cv+cv<=n*cv:=by rw[<- succ_mul];exact mul_le_mul_right _ h
 have h2:c*cv+cv<=n*cv:=by rw[<- succ_mul];exact mul_le_mul_right _ aB
 apply ext_getElem?;intro y;rw[List.getElem?_take,List.getElem?_take];split;rename_i ba;rw[List.getElem?_drop,List.getElem?_drop];rcases Nat.lt_or_gt_of_ne dC with h3|h3
 have aG:a*cv+cv<=c*cv:=by rw[<- succ_mul];exact mul_le_mul_right _ h3
 grind
 have aG:c*cv+cv<=a*cv:=by rw[<- succ_mul];exact mul_le_mul_right _ h3
 grind
 rfl
theorem jk.agI(h:jk cv n f aP aq)(ah:aP.length<n)(he:dR.length=cv):jk cv n f (aP++[dR]) (aq.take (((f+aP.length)%n)*cv)++(dR++aq.drop (((f+aP.length)%n)*cv+cv))):=by
 have hm:=F9 (f:=f) h.fo aP.length;refine⟨h.fo,h.vT,h.dc,by grind,agG hm h.len he,?_,?_⟩;intro e hm;rcases mem_append.1 hm with h1|h1
 exact h.Ds e h1
 simp_all
 intro j bm;by_cases h1:j<aP.length;rw[agH hm (F9 h.fo j) (agF h.dc h1 ah).symm h.len he,getElem_append_left h1];exact h.k4 j h1;have:j=aP.length:=by grind
 subst this;rw[aym hm h.len he];simp
theorem jk.agJ(h:jk cv n f (dR::aP) aq){z:List Value}(dU:z.length=cv):jk cv n ((f+1)%n) aP (aq.take (f*cv)++(z++aq.drop (f*cv+cv))):=by
 have ah:=h.r9;rw[length_cons]at ah;refine⟨h.fo,h.vT,F9 h.fo 1,by omega,agG h.dc h.len dU,fun e hm=>h.Ds e (mem_cons_of_mem _ hm),?_⟩;intro j bm;have a7:((f+1)%n+j)%n=(f+(j+1))%n:=by grind[mod_add_mod]
 have bt:f≠(f+(j+1))%n:=by have:=agF (f:=f) (j:=0) (k:=j+1) h.dc (by omega) (by omega);rw[Nat.add_zero,mod_eq_of_lt h.dc]at this;exact this
 rw[a7,agH h.dc (F9 h.fo (j+1)) bt h.len dU];exact h.k4 (j+1) (by grind)
theorem jk.head(h:jk cv n f (dR::aP) aq):(aq.drop (f*cv)).take cv=dR:=by have:=h.k4 0 (by simp);rw[Nat.add_zero,mod_eq_of_lt h.dc]at this;exact this
theorem agK(hO:aj H (ae++L))(an:L[i]?=some (r,⟨dp q n 2 f k,true⟩))(ah:k<=n)(aU:n<=16)(hZ:aa (int ((n-k:Nat):Int)) H):ay P 128 [ai r 0] H aa:=by apply asf;unfold ab0;refine aV (cB hO i an (v:=.bool false) rfl (dP rfl (aV (cB hO i an (v:=aC q 0 n 5) rfl (bW ze (aV (cB hO i an (v:=int k) rfl (ag (ob (by omega) (by omega)) ?_))))))));rw[show((n-k:Nat):Int)=(n:Int)-k by omega]at hZ;exact hZ
theorem agL(hO:aj H (ae++L))(an:L[i]?=some (r,⟨dp q n 2 f k,true⟩))(hf:f<n)(aU:n<=16)(bm:j<=16)(hZ:aa (int (((f+j)%n:Nat):Int)) H):ay P 189 [ai r 0,int j] H aa:=by apply asW;unfold acN;exact aV (cB hO i an (v:=int f) rfl (ag (yq (by omega)) (aV (cB hO i an (v:=aC q 0 n 5) rfl (bW ze (ag (uN (by omega)) hZ))))))
theorem ayn(hO:aj H (ae++L))(an:L[i]?=some (r,⟨dp q n 2 f k,true⟩))(hZ:aa (int k) H):ay P 136 [ai r 0] H aa:=by apply asn;unfold ab8;exact aV (cB hO i an (v:=int k) rfl hZ)
theorem sa(l:List Value):dr (agg l)=l:=rfl
theorem ayo{a:Int}{v:Value}(hO:aj H (ae++L))(an:L[i]?=some (r,⟨dp q n 2 f aP.length,true⟩))(bm:L[j]?=some (q,⟨aq,true⟩))(qM:i≠j)(h:jk 2 n f aP aq)(hv:fY v=true)(kn:eL v=true)
  (eU:aP.length=n->∀ab,aj ab (ae++L)->aa (.bool false) ab)
  (pZ:aP.length<n->∀ab bE,jk 2 n f (aP++[[int a,v]]) bE->aj ab (ae++((L.set j (q,⟨bE,true⟩)).set i (r,⟨dp q n 2 f (aP.length+1),true⟩)))->aa (.bool true) ab):
  ay P 130 [ai r 0,agg [int a,v]] H aa:=by
 apply ash;unfold ab2;have gF:=h.r9;have nQ:=h.vT;have tf:=(List.getElem?_eq_some_iff.1 an).1;have rL:=(List.getElem?_eq_some_iff.1 bm).1;rw[sa];refine j3 hO ?_;intro eQ H hO;have fu:=aL (L:=[(eQ,(⟨[int a,v],true⟩:ax))]) an;have pK:=aL (L:=[(eQ,(⟨[int a,v],true⟩:ax))]) bm;refine agK hO fu gF nQ (ag e2 (bF (fun aJ=>?_) (fun aJ=>?_)));exact eU (by omega) H (Dk hO);have dw:aP.length<n:=by omega
 have hm:=F9 (f:=f) h.fo aP.length;refine aV (cB hO i fu (v:=aC q 0 n 5) rfl (aV (cB hO i fu (v:=int aP.length) rfl (agL hO fu h.dc nQ (by omega) (⟨ho hO (ae.length+i) (az fu) hO (ae.length+i) (az fu) rfl,?_⟩)))));refine gh hO (ae.length+L.length) (az (List.getElem?_concat_length ..)) rfl (by omega) ?_;refine⟨ho hO (ae.length+L.length) (az (List.getElem?_concat_length ..)) hO (ae.length+L.length) (az (List.getElem?_concat_length ..)) (by simp[hv];rfl),?_⟩;refine ag (jD (by omega) (by omega)) ?_;have JU:0+(((f+aP.length)%n:Nat):Int).toNat*2=((f+aP.length)%n)*2:=by omega
 rw[JU];have j7:(f+aP.length)%n*2+2<=aq.length:=by rw[h.len];omega
 refine pR hO (ae.length+j) (az pK) (by rfl) j7 (by simp[sa,kn];rfl) ?_;intro H hO
 replace hO:=hO.cD
 rw[set_append_left _ _ rL]at hO;have al:jk 2 n f (aP++[[int a,v]]) (aq.take (((f+aP.length)%n)*2)++(dr (agg [int a,v])++aq.drop (((f+aP.length)%n)*2+2))):=h.agI dw rfl;generalize aq.take (((f+aP.length)%n)*2)++(dr (agg [int a,v])++aq.drop (((f+aP.length)%n)*2+2))=cr at*;have tb:=aL (L:=[(eQ,(⟨[int a,v],true⟩:ax))]) ((List.getElem?_set_ne (by omega:j≠i):(L.set j (q,(⟨cr,true⟩:ax)))[i]?=L[i]?).trans an);refine aV (cB hO i tb (v:=int aP.length) rfl (ag (yq (b:=1) (by omega)) (aV (dt hO i tb rfl (by simp[dp]) ?_))));intro H hO;rw[set_append_left _ _ (by simp_all)]at hO;exact pZ dw H cr al (Dk hO)
end J
namespace J
open Go Go.Ab
variable[cu:b0]
variable{H:au}{ae L:List (Nat×ax)}{aa:VH}{v:Value}{b:List Int}{i j q r n f:Nat}{e:Int}{aq bE:List Value}{aP:List (List Value)}{dR:List Value}
theorem TD:df P 179=[int 0,bu]:=by rfl
def Nb(z:List Value):List (List Value)->List Value
 | []=>z
 | dR::_=>dR
def agM:List (List Value)->Bool
 | []=>false
 | _::_=>true
theorem ig{A:List Value}(h:A.length=2):∃a b,A=[a,b]:=by
 match A,h with
 | [a,b],_=>simp_all
theorem Nc{A:List Value}(h:A.length=1):∃a,A=[a]:=by
 match A,h with
 | [a],_=>simp_all
theorem ayp(hO:aj H (ae++L))(an:L[i]?=some (r,⟨dp q n 2 f aP.length,true⟩))(bm:L[j]?=some (q,⟨aq,true⟩))(h:jk 2 n f aP aq)(h1:∀e∈aP,e.all eL=true)
  (ah:∀ab,aj ab (ae++L)->aa (.tuple [agg (Nb [int 0,bu] aP),.bool (agM aP)].toArray) ab):ay P 195 [ai r 0] H aa:=by
 apply as2;unfold acT;have nQ:=h.vT;rw[TD];refine j3 hO ?_;intro bp H hO;refine j3 hO ?_;intro c1 H hO;rw[append_assoc]at hO
 replace hO:aj H (ae++(L++[(bp,⟨[int 0,bu],true⟩),(c1,⟨[int 0,bu],true⟩)])):=hO
 have fu:=aL (L:=[(bp,(⟨[int 0,bu],true⟩:ax)),(c1,⟨[int 0,bu],true⟩)]) an;have pK:=aL (L:=[(bp,(⟨[int 0,bu],true⟩:ax)),(c1,⟨[int 0,bu],true⟩)]) bm;refine aV (cB hO i fu (v:=int aP.length) rfl (ag e2 ?_));cases aP with
 | nil=>refine oa rfl (jN hO (L.length+1) (az rfl) rfl (by omega) (lr hO (L.length+0) (az rfl) rfl rfl rfl ?_));intro H hO;rw[Go.Ab.cD]at hO;exact jN hO (L.length+0) (az rfl) rfl (by omega) (ah H (Dk hO))
 | cons dR aP=>refine sF (by grind) ?_;have h2:=h.Ds dR (by simp);have h3:=h1 dR (by simp);have hf:=h.dc;refine aV (cB hO i fu (v:=aC q 0 n 5) rfl (aV (cB hO i fu (v:=int f) rfl (ag (jD (by omega) (by omega)) ?_))));rw[show 0+((f:Nat):Int).toNat*2=f*2 by omega];refine iH hO (ae.length+j) (az pK) h.head h2 (by omega) (lr hO (L.length+0) (az rfl) rfl h2 h3 ?_);intro H hO;rw[Go.Ab.cD]at hO;exact jN hO (L.length+0) (az rfl) h2 (by omega) (ah H (Dk hO))
theorem ayq(hO:aj H (ae++L))(an:L[i]?=some (r,⟨dp q n 2 f aP.length,true⟩))(bm:L[j]?=some (q,⟨aq,true⟩))(qM:i≠j)(h:jk 2 n f aP aq)(h1:∀e∈aP,e.all eL=true)
  (eU:aP=[]->∀ab,aj ab (ae++L)->aa (.tuple [agg [int 0,bu],.bool false].toArray) ab)
  (pZ:∀dR bj,aP=dR::bj->∀ab bE,jk 2 n ((f+1)%n) bj bE->aj ab (ae++((L.set j (q,⟨bE,true⟩)).set i (r,⟨dp q n 2 ((f+1)%n) bj.length,true⟩)))->aa (.tuple [agg dR,.bool true].toArray) ab):
  ay P 138 [ai r 0] H aa:=by
 apply asp;unfold aca;have nQ:=h.vT;have hf:=h.dc;have tf:=(List.getElem?_eq_some_iff.1 an).1;have rL:=(List.getElem?_eq_some_iff.1 bm).1;rw[TD];refine j3 hO ?_;intro bp H hO;refine ayp hO (aL an) (aL bm) h h1 ?_;intro H hO;refine ag rfl (ag rfl (j3 hO ?_));intro c1 H hO;rw[append_assoc]at hO
 replace hO:aj H (ae++(L++[(bp,⟨[int 0,bu],true⟩),(c1,⟨[int 0,bu],true⟩)])):=hO
 have Dt:(Nb [int 0,bu] aP).length=2:=by
  cases aP with
  | nil=>rfl
  | cons dR aP=>exact h.Ds dR (by simp)
 have TE:(Nb [int 0,bu] aP).all eL=true:=by
  cases aP with
  | nil=>rfl
  | cons dR aP=>exact h1 dR (by simp)
 refine lr hO (L.length+1) (az rfl) rfl Dt TE ?_;intro H hO;rw[Go.Ab.cD]at hO
 replace hO:aj H (ae++(L++[(bp,⟨[int 0,bu],true⟩),(c1,⟨Nb [int 0,bu] aP,true⟩)])):=hO
 cases aP with
 | nil=>refine dP rfl (jN hO (L.length+1) (az rfl) Dt (by omega) (lr hO (L.length+0) (az rfl) rfl Dt TE ?_));intro H hO;rw[Go.Ab.cD]at hO;exact jN hO (L.length+0) (az rfl) Dt (by omega) (eU rfl H (Dk hO))
 | cons dR aP=>
  have l1:=h.r9;rw[length_cons]at l1;refine eT rfl (j3 hO ?_);intro gQ H hO;rw[append_assoc]at hO
  replace hO:aj H (ae++(L++[(bp,⟨[int 0,bu],true⟩),(c1,⟨dR,true⟩),(gQ,⟨[int 0,bu],true⟩)])):=hO
  generalize bk:[(bp,(⟨[int 0,bu],true⟩:ax)),(c1,⟨dR,true⟩),(gQ,⟨[int 0,bu],true⟩)]=T at*;have fu:=aL (L:=T) an;have pK:=aL (L:=T) bm;refine aV (cB hO i fu (v:=aC q 0 n 5) rfl (aV (cB hO i fu (v:=int f) rfl (jN hO (L.length+2) (az (by rw[<- bk];rfl)) rfl (by omega) (ag (jD (by omega) (by omega)) ?_)))));rw[show 0+((f:Nat):Int).toNat*2=f*2 by omega];have j7:f*2+2<=aq.length:=by rw[h.len];omega
  refine pR hO (ae.length+j) (az pK) (by rfl) j7 (by rfl) ?_;intro H hO
  replace hO:=hO.cD
  rw[set_append_left _ _ rL]at hO;have al:jk 2 n ((f+1)%n) aP (aq.take (f*2)++(dr (agg [int 0,bu])++aq.drop (f*2+2))):=h.agJ rfl;generalize aq.take (f*2)++(dr (agg [int 0,bu])++aq.drop (f*2+2))=cr at*;have tb:=aL (L:=T) ((List.getElem?_set_ne (by omega:j≠i):(L.set j (q,(⟨cr,true⟩:ax)))[i]?=L[i]?).trans an);refine agL (j:=1) hO tb hf nQ (by omega) (aV (dt hO i tb rfl (by simp[dp]) ?_));intro H hO;rw[set_append_left _ _ (by simp_all)]at hO;have IL:((L.set j (q,(⟨cr,true⟩:ax))).set i (r,⟨dp q n 2 ((f+1)%n) (aP.length+1),true⟩)++T)[i]?=some (r,⟨dp q n 2 ((f+1)%n) (aP.length+1),true⟩):=aL (List.getElem?_set_self (by simp_all))
  replace hO:aj H (ae++((L.set j (q,(⟨cr,true⟩:ax))).set i (r,⟨dp q n 2 ((f+1)%n) (aP.length+1),true⟩)++T)):=hO
  refine aV (cB hO i IL (v:=int ((aP.length+1:Nat):Int)) rfl (ag (ob (by omega) (by omega)) (aV (dt hO i IL rfl (by simp[dp]) ?_))));intro H hO;rw[set_append_left _ _ (by simp_all),set_set]at hO
  replace hO:aj H (ae++((L.set j (q,(⟨cr,true⟩:ax))).set i (r,⟨[aC q 0 n 5,int ((f+1)%n:Nat),int (((aP.length+1:Nat):Int)-1),.bool false],true⟩)++T)):=hO
  rw[show(((aP.length+1:Nat):Int)-1)=aP.length by omega]at hO;have hlen:((L.set j (q,(⟨cr,true⟩:ax))).set i (r,⟨[aC q 0 n 5,int ((f+1)%n:Nat),int aP.length,.bool false],true⟩)).length=L.length:=by simp
  subst bk;refine jN hO (L.length+1) (by rw[<- hlen];exact az rfl) Dt (by omega) (lr hO (L.length+0) (by rw[<- hlen];exact az rfl) rfl Dt TE ?_);intro H hO;rw[<- hlen,Go.Ab.cD]at hO;exact jN hO (L.length+0) (by rw[<- hlen];exact az rfl) Dt (by omega) (pZ dR aP rfl H cr al (Dk hO))
end J
namespace J
open Go Go.Ab
variable[cu:b0]
variable{H:au}{ae L:List (Nat×ax)}{aa:VH}{v x:Value}{b:List Int}{i j q r n k f:Nat}{e:Int}{aq bE:List Value}{l:List UInt8}{aP:List (List Value)}{dR:List Value}
theorem Nd(hO:aj H (ae++L))(an:L[i]?=some (r,⟨dp q n 1 f k,true⟩))(ah:k<=n)(aU:n<=16)(hZ:aa (int ((n-k:Nat):Int)) H):ay P 137 [ai r 0] H aa:=by apply aso;unfold ab9;refine aV (cB hO i an (v:=.bool false) rfl (dP rfl (aV (cB hO i an (v:=aC q 0 n 3) rfl (bW ze (aV (cB hO i an (v:=int k) rfl (ag (ob (by omega) (by omega)) ?_))))))));rw[show((n-k:Nat):Int)=(n:Int)-k by omega]at hZ;exact hZ
theorem agN(hO:aj H (ae++L))(an:L[i]?=some (r,⟨dp q n 1 f k,true⟩))(hf:f<n)(aU:n<=16)(bm:j<=16)(hZ:aa (int (((f+j)%n:Nat):Int)) H):ay P 183 [ai r 0,int j] H aa:=by apply asR;unfold acI;exact aV (cB hO i an (v:=int f) rfl (ag (yq (by omega)) (aV (cB hO i an (v:=aC q 0 n 3) rfl (bW ze (ag (uN (by omega)) hZ))))))
theorem TF{v:Value}(h:eL v=true):dr v=[v]:=by cases v<;>first|rfl|(cases h;done)
theorem Ga{v:Value}(hO:aj H (ae++L))(an:L[i]?=some (r,⟨dp q n 1 f aP.length,true⟩))(bm:L[j]?=some (q,⟨aq,true⟩))(qM:i≠j)(h:jk 1 n f aP aq)(kn:eL v=true)
  (eU:aP.length=n->aa (.bool false) H)
  (pZ:aP.length<n->∀ab bE,jk 1 n f (aP++[[v]]) bE->aj ab (ae++((L.set j (q,⟨bE,true⟩)).set i (r,⟨dp q n 1 f (aP.length+1),true⟩)))->aa (.bool true) ab):
  ay P 194 [ai r 0,v] H aa:=by
 apply as1;unfold acS;have gF:=h.r9;have nQ:=h.vT;have tf:=(List.getElem?_eq_some_iff.1 an).1;have rL:=(List.getElem?_eq_some_iff.1 bm).1;refine Nd hO an gF nQ (ag e2 (bF (fun aJ=>?_) (fun aJ=>?_)));exact eU (by omega);have dw:aP.length<n:=by omega
 have hm:=F9 (f:=f) h.fo aP.length;refine aV (cB hO i an (v:=aC q 0 n 3) rfl (aV (cB hO i an (v:=int aP.length) rfl (agN hO an h.dc nQ (by omega) (⟨ho hO (ae.length+i) (az an) hO (ae.length+i) (az an) rfl,?_⟩)))));refine ag (jD (by omega) (by omega)) ?_;have JU:0+(((f+aP.length)%n:Nat):Int).toNat*1=((f+aP.length)%n)*1:=by omega
 rw[JU];have j7:(f+aP.length)%n*1+1<=aq.length:=by rw[h.len];omega
 refine pR hO (ae.length+j) (az bm) (by grind[TF]) j7 (by simp_all[TF]) ?_;intro H hO
 replace hO:=hO.cD
 rw[TF kn]at hO;have al:jk 1 n f (aP++[[v]]) (aq.take (((f+aP.length)%n)*1)++([v]++aq.drop (((f+aP.length)%n)*1+1))):=h.agI dw rfl;generalize aq.take (((f+aP.length)%n)*1)++([v]++aq.drop (((f+aP.length)%n)*1+1))=cr at*;have tb:(L.set j (q,(⟨cr,true⟩:ax)))[i]?=_:=(List.getElem?_set_ne (by omega:j≠i)).trans an;refine aV (cB hO i tb (v:=int aP.length) rfl (ag (yq (b:=1) (by omega)) (aV (dt hO i tb rfl (by simp[dp]) ?_))));intro H hO;exact pZ dw H cr al hO
noncomputable def ayr:List (List Value)->Value
 | []=>.nilIface
 | dR::_=>cf dR 0
theorem ays(hO:aj H (ae++L))(an:L[i]?=some (r,⟨dp q n 1 f aP.length,true⟩))(bm:L[j]?=some (q,⟨aq,true⟩))(h:jk 1 n f aP aq)
  (ah:aa (.tuple [ayr aP,.bool (agM aP)].toArray) H):ay P 182 [ai r 0] H aa:=by
 apply asQ;unfold acH;have nQ:=h.vT;refine aV (cB hO i an (v:=int aP.length) rfl (ag e2 ?_));cases aP with
 | nil=>exact oa rfl ah
 | cons dR aP=>
  refine sF (by grind) ?_;have h2:=h.Ds dR (by simp);have hf:=h.dc;obtain⟨a,rfl⟩:=Nc h2;refine aV (cB hO i an (v:=aC q 0 n 3) rfl (aV (cB hO i an (v:=int f) rfl (ag (jD (by omega) (by omega)) ?_))));have hh:=h.head;have h3:aq[0+((f:Nat):Int).toNat*1]?=some a:=by
   have e:=congrArg (fun l=>l[0]?) hh
   grind
  exact cB hO j bm h3 ah
theorem agO(hO:aj H (ae++L))(an:L[i]?=some (r,⟨dp q n 1 f aP.length,true⟩))(bm:L[j]?=some (q,⟨aq,true⟩))(qM:i≠j)(h:jk 1 n f aP aq)
  (eU:aP=[]->aa (.tuple [.nilIface,.bool false].toArray) H)
  (pZ:∀a bj,aP=[a]::bj->∀ab bE,jk 1 n ((f+1)%n) bj bE->aj ab (ae++((L.set j (q,⟨bE,true⟩)).set i (r,⟨dp q n 1 ((f+1)%n) bj.length,true⟩)))->aa (.tuple [a,.bool true].toArray) ab):
  ay P 126 [ai r 0] H aa:=by
 apply asc;unfold abZ;have nQ:=h.vT;have hf:=h.dc;have tf:=(List.getElem?_eq_some_iff.1 an).1;have rL:=(List.getElem?_eq_some_iff.1 bm).1;refine ays hO an bm h (ag rfl (ag rfl ?_));cases aP with
 | nil=>exact dP rfl (eU rfl)
 | cons dR aP=>
  have l1:=h.r9;rw[length_cons]at l1;obtain⟨a,rfl⟩:=Nc (h.Ds dR (by simp));refine eT rfl (aV (cB hO i an (v:=aC q 0 n 3) rfl (aV (cB hO i an (v:=int f) rfl (ag (jD (by omega) (by omega)) ?_)))));rw[show 0+((f:Nat):Int).toNat*1=f*1 by omega];have j7:f*1+1<=aq.length:=by rw[h.len];omega
  refine pR hO (ae.length+j) (az bm) (by rfl) j7 (by rfl) ?_;intro H hO
  replace hO:=hO.cD
  have al:jk 1 n ((f+1)%n) aP (aq.take (f*1)++(dr .nilIface++aq.drop (f*1+1))):=h.agJ rfl;generalize aq.take (f*1)++(dr .nilIface++aq.drop (f*1+1))=cr at*;have tb:(L.set j (q,(⟨cr,true⟩:ax)))[i]?=_:=(List.getElem?_set_ne (by omega:j≠i)).trans an;refine agN (j:=1) hO tb hf nQ (by omega) (aV (dt hO i tb rfl (by simp[dp]) ?_));intro H hO;have IL:((L.set j (q,(⟨cr,true⟩:ax))).set i (r,⟨dp q n 1 ((f+1)%n) (aP.length+1),true⟩))[i]?=some (r,⟨dp q n 1 ((f+1)%n) (aP.length+1),true⟩):=List.getElem?_set_self (by simp_all)
  replace hO:aj H (ae++((L.set j (q,(⟨cr,true⟩:ax))).set i (r,⟨dp q n 1 ((f+1)%n) (aP.length+1),true⟩))):=hO
  refine aV (cB hO i IL (v:=int ((aP.length+1:Nat):Int)) rfl (ag (ob (by omega) (by omega)) (aV (dt hO i IL rfl (by simp[dp]) ?_))));intro H hO;rw[set_set]at hO
  replace hO:aj H (ae++((L.set j (q,(⟨cr,true⟩:ax))).set i (r,⟨[aC q 0 n 3,int ((f+1)%n:Nat),int (((aP.length+1:Nat):Int)-1),.bool false],true⟩))):=hO
  rw[show(((aP.length+1:Nat):Int)-1)=aP.length by omega]at hO;exact pZ a aP rfl H cr al hO
def eK(x:Int):Nat:=(max 1 (min x 16)).toNat
theorem Bz(x:Int):1<=eK x/\eK x<=16/\((eK x:Nat):Int)=max 1 (min x 16):=by grind[eK]
theorem agP{z:List Value}(n:Nat)(h1:1<=n)(h2:n<=16):jk z.length n 0 [] (gv n z):=by exact⟨h1,h2,by omega,by simp,JT n z,by simp,fun j h=>by simp at h⟩
theorem ayt{x:Int}(hO:aj H (ae++L))(ah:∀ab q r aq,jk 2 (eK x) 0 [] aq->aj ab (ae++(L++[(q,⟨aq,true⟩),(r,⟨dp q (eK x) 2 0 0,true⟩)]))->aa (ai r 0) ab):ay P 77 [int x] H aa:=by apply arK;unfold abv;obtain⟨r1,r2,r3⟩:=Bz x;refine bW tl (bW x3 ?_);rw[<- r3];rw[show(rD P 134).f (int (eK x:Nat)) (int (eK x:Nat)) H=u6 2 32 [int 0,bu] (int (eK x:Nat)) (int (eK x:Nat)) H from by rfl];refine HG hO (by omega) (by omega) ?_;intro q H hO;refine ag (show _=some (agg [aC q 0 (eK x) 5,int 0,int 0,.bool false])from by rfl) (dH hO ?_);intro r H hO;refine ah H q r _ (agP (z:=[int 0,bu]) _ r1 r2) ?_;rw[append_assoc,append_assoc]at hO;exact hO
theorem agQ{x:Int}(hO:aj H (ae++L))(ah:∀ab q r aq,jk 1 (eK x) 0 [] aq->aj ab (ae++(L++[(q,⟨aq,true⟩),(r,⟨dp q (eK x) 1 0 0,true⟩)]))->aa (ai r 0) ab):ay P 78 [int x] H aa:=by apply arL;unfold abw;obtain⟨r1,r2,r3⟩:=Bz x;refine bW tl (bW x3 ?_);rw[<- r3];rw[show(rD P 269).f (int (eK x:Nat)) (int (eK x:Nat)) H=u6 1 16 [.nilIface] (int (eK x:Nat)) (int (eK x:Nat)) H from by rfl];refine HG hO (by omega) (by omega) ?_;intro q H hO;refine ag (show _=some (agg [aC q 0 (eK x) 3,int 0,int 0,.bool false])from by rfl) (dH hO ?_);intro r H hO;refine ah H q r _ (agP (z:=[.nilIface]) _ r1 r2) ?_;rw[append_assoc,append_assoc]at hO;exact hO
end J
namespace J
open Go Go.Ab
variable[cu:b0]
variable{H:au}{ae:List (Nat×ax)}{aa:VH}{v aZ:Value}{b:List Int}{f:Nat}{e i:Int}{m:da}{t:pY}
def gy(m:da)(i:Int):Int×Int:=if¬eG m\/i<0\/i≥m.aN.length then(0,0)else(i*m.aF,min m.aF (m.cT-i*m.aF))
theorem Nf(U:eG m)(aJ:0<=i)(h1:i<m.aN.length):0<=i*m.aF/\i*m.aF<=65536/\(i=(m.aN.length:Int)-1->m.cT-i*m.aF<=m.aF/\0<m.cT-i*m.aF)/\(i≠(m.aN.length:Int)-1->m.aF<=m.cT-i*m.aF):=by
 obtain⟨_,_,_,dt,cP,dZ,gd,_,aB,aU⟩:=U;unfold l2 at aB;rw[if_neg (by omega)]at aB;have aO:=Int.mul_ediv_add_emod (m.cT-1) m.aF;have wF:=Int.emod_nonneg (m.cT-1) (show m.aF≠0 by omega);have qF:=Int.emod_lt_of_pos (m.cT-1) (show 0<m.aF by omega);have xb:0<=(m.cT-1)/m.aF:=Int.ediv_nonneg (by omega) (by omega);generalize (m.cT-1)/m.aF=d at*;generalize (m.cT-1)%m.aF=e at*;have zH:∀a c:Int,0<=a->a<=c->a*m.aF<=c*m.aF:=fun a c _ h=>Int.mul_le_mul_of_nonneg_right h (by omega)
 have a7:m.aF*d=d*m.aF:=Int.mul_comm _ _;have b1:=zH 0 i (by omega) aJ;have b2:=zH i d aJ (by omega);refine⟨by omega,by omega,fun h=>?_,fun h=>?_⟩
 grind
 have gE:=zH (i+1) d (by omega) (by omega)
 grind
theorem TG{t:TypeId}{c:Bool}{a b:Int}(h1:-9223372036854775808<=a*b)(h2:a*b<=9223372036854775807):(ar P .mul t c).f (int a) (int b)=some (int (a*b)):=by rw[rS _ _ rfl];show some (Value.int .i64 (iN .i64 (a*b)))=_;rw[AI h1 h2]
theorem TH(ok:m.b4)(aB:e8 ae aZ m.aN)(hO:aj H ae)(ah:∀ab,aj ab ae->aa (.tuple [int (gy m i).1,int (gy m i).2].toArray) ab):ay P 188 [agg (bN m aZ),int i] H aa:=by
 apply asV;unfold acM;have vQ:=sP (aZ:=aZ) ok.dh;rw[zD];refine j3 hO.z ?_;intro dx H hO
 replace hO:aj H (ae++[(dx,⟨bN m aZ,true⟩)]):=hO
 refine e3 (fun aA ab=>aA=[int i,ai dx 0,.bool (decide (¬eG m\/i<0\/i≥m.aN.length))]/\aj ab (ae++[(dx,⟨bN m aZ,true⟩)])) ?_ ?_;refine jN hO 0 rfl (eS ok.dh) (by omega) (F4 ok aB.app hO ?_);intro H hO;refine ag ix ?_;by_cases U:eG m;rw[decide_eq_true U];refine dP rfl (ag fr (ag km (bF (fun h=>?_) (fun h=>?_))));exact ag (gA h) (⟨by simp[h],hO⟩);exact ag b7 (cB hO 0 rfl vQ (bW aB.bO (ag um (ag (gP h) (⟨by grind,hO⟩)))));rw[decide_eq_false U];exact eT rfl (ag j9 (ag j9 (⟨by simp[U],hO⟩)));rintro aA H ⟨rfl,hO⟩
 try simp only[cj,ck]
 unfold gy at ah;refine bF (fun h=>?_) (fun h=>?_);rw[if_pos h]at ah;exact ah H hO.left;rw[if_neg h]at ah;have U:eG m:=Classical.byContradiction fun h1=>h (.inl h1)
 obtain⟨dt,cP,sz,Ng⟩:=Nf (i:=i) U (by omega) (by omega);have gD:=U;obtain⟨_,_,_,mF,o8,dZ,gd,_⟩:=gD;exact ag b7 (cB hO 0 rfl (v:=int m.aF) rfl (ag (TG (by omega) (by omega)) (ag b7 (cB hO 0 rfl (v:=int m.aF) rfl (ag b7 (cB hO 0 rfl (v:=int m.cT) rfl (ag (ob (by omega) (by omega)) (bW tl (ah H hO.left)))))))))
end J
namespace J
open Go Go.Ab
variable[cu:b0]
variable{H:au}{ae L:List (Nat×ax)}{aa:VH}{w x aZ:Value}{j p q o n f bl st c7:Nat}{e:Int}{aq bE dg:List Value}{m:da}{aN:List (List Int)}
theorem ayu:(ar P .eql 53 true).f bu (.slice none 0 0)=some (.bool true):=by rfl
theorem ayv(p o n c:Nat):(ar P .eql 53 true).f (aC p o n c) (.slice none 0 0)=some (.bool false):=by rfl
theorem ayw(H:au):(eV P 53 0).f [] H=some (aC H.next 0 0 65,H.push []):=by rfl
theorem agR(h:∀x∈aN,x.length=32):(fV aN).length=aN.length*32:=by
 induction aN with
 | nil=>rfl
 | cons a aN bg=>grind
theorem ayx:(fV aN).all eL=true:=by simp_all[eL]
theorem agS(aB:e8 ae aZ aN)(ayy:∀x∈aN,x.length=32)(aU:aN.length<=10000)(hO:aj H ae)
  (ah:∀ab aQ,aj ab (ae++bQ aQ (fV aN))->e8 (bQ aQ (fV aN)) aQ aN->aa aQ ab):ay P 148 [aZ] H aa:=by
 apply asD;unfold acr;have aD:=agR ayy;rcases aB with⟨rfl,rfl⟩|⟨p,c,j,w,rfl,bm⟩
 exact ag ayu (eT rfl (ah H bu hO.z e8.nil));refine ag (ayv _ _ _ _) (dP rfl (ik hO (ayw _) ?_));intro q H hO;by_cases aJ:aN=[];subst aJ;exact bW (show _=some (aC q 0 0 65,H)from rfl) (ah H (aC q 0 0 65) hO (.inr ⟨q,65,0,true,rfl,rfl⟩));have CN:0<aN.length:=length_pos_iff.2 aJ;have hg:H.get p=some ⟨fV aN,w⟩:=hO.at j (aL bm) (.inr fun e=>by grind);have he:tX H 32 aN.length (aC p 0 aN.length c)=some (fV aN):=by simp_all[HH,take_of_length_le]
 have dF:aj H (ae++bQ (aC q 0 0 65) []):=hO;refine Qy (n:=0) (m:=aN.length) (aq:=[]) (cY:=fV aN) dF (.inr ⟨q,.inr rfl,rfl⟩) (by omega) rfl he CN (by omega) (by omega) ayx aD ?_;intro q2 H hO _;rw[Nat.zero_add];exact ah H (aC q2 0 aN.length 64) hO (.inr ⟨q2,64,0,true,rfl,rfl⟩)
def j5(m:da)(aZ:Value)(bl c7:Nat):List Value:=bN m aZ++[ai bl 0,int c7]
theorem ayz(aO:m.cn.length=32)(a:Option Addr)(n c:Nat):(dq P 357).f [(0,agg (bN m (.slice a n c))),(1,ai bl 0)]=some (agg (j5 m (.slice a n c) bl 0)):=by
 obtain⟨cF,cV,cT,aF,cn,aN⟩:=m;have aO:cn.length=32:=aO
 match cn,aO with
 | [a0,cU,cR,a3,a4,a5,kp,ln,mR,a9,SV,SW,SX,SY,SZ,S0,C1,Ta,Tb,Tc,a20,a21,Td,Te,Tf,Tg,Th,Ti,Tj,Tk,Tl,Tm],_=>rfl
theorem ayA(ok:m.b4)(aB:e8 ae aZ m.aN)(U:eG m)(hO:aj H ae)
  (ah:∀ab mQ bl L st,lM bl [] L->e8 (bQ mQ (fV m.aN)) mQ m.aN->aj ab ((ae++bQ mQ (fV m.aN))++(L++[(st,⟨j5 m mQ bl 0,true⟩)]))->aa (.tuple [ai st 0,int 0].toArray) ab):ay P 198 [agg (bN m aZ)] H aa:=by
 apply as5;unfold acW;have vQ:=sP (aZ:=aZ) ok.dh;have Ar:=eS (aZ:=aZ) ok.dh;rw[zD];refine j3 hO.z ?_;intro dx H hO
 replace hO:aj H (ae++[(dx,⟨bN m aZ,true⟩)]):=hO
 refine jN hO 0 rfl Ar (by omega) (F4 ok aB.app hO ?_);intro H hO;rw[decide_eq_true U];refine ag ix (dP rfl (ag b7 (cB hO 0 rfl vQ (agS aB.app ok.ea ok.n hO ?_))));intro H ej hO h1;refine ag b7 ?_;refine fR hO (ae.length+0) (aL (az rfl)) h1.fh (by omega) (bE:=bN m ej) (by simp_all[bN]) ?_;intro H hO;rw[set_append_left _ _ (by simp),Go.Ab.cD]at hO
 replace hO:aj H ((ae++[(dx,⟨bN m ej,true⟩)])++bQ ej (fV m.aN)):=hO
 refine gh hO (ae.length+0) (aL (az rfl)) (eS ok.dh) (by omega) ?_;have ez:=hO;refine Mx hO ?_;intro cJ bl hO;refine⟨ho ez (ae.length+0) (aL (az rfl)) hO (ae.length+0) (aL (aL (az rfl))) (Bo h1.tG),?_⟩;obtain⟨cU,fo,dg,rfl⟩:=h1.lk;refine ag (ayz ok.dh _ _ _) ?_;rw[sa];refine dH hO ?_;intro st H hO;refine ah H _ bl (nT bl (nr []) bu ([]:List Int).length []) st ⟨_,_,rfl,.inl ⟨rfl,rfl,rfl⟩⟩ h1 ?_;exact hO.sub (by simp only[append_assoc];exact List.Sublist.append (List.Sublist.refl ae) (sublist_append_right [(dx,_)] _))
end J
namespace J
open Go Go.Ab
variable[cu:b0]
variable{H:au}{ae L:List (Nat×ax)}{aa:VH}{w aZ:Value}{xs bh b:List Int}{i p q n k bl st c7:Nat}{e:Int}{m:da}{aN:List (List Int)}
theorem Nh(aO:m.cn.length=32):(j5 m aZ bl c7)[0+38]?=some (int c7):=by simp_all[j5,eS]
theorem agT(aO:m.cn.length=32):(j5 m aZ bl c7)[0+37]?=some (ai bl 0):=by simp_all[j5,eS]
theorem agU(aO:m.cn.length=32):(j5 m aZ bl c7)[0+0+36]?=some aZ:=by grind[j5,sP]
theorem ayB(aO:m.cn.length=32):((j5 m aZ bl c7).drop (0+0)).take 37=bN m aZ:=by simp_all[j5,eS]
theorem ayC(aO:m.cn.length=32):((j5 m aZ bl c7).drop (0+0+4)).take 32=bd m.cn:=by simp_all[j5,drop_append_of_le_length,eS,take_append_of_le_length,MG]
theorem ayD(aO:m.cn.length=32):(j5 m aZ bl c7).set (0+38) (int ((c7+1:Nat):Int))=j5 m aZ bl (c7+1):=by simp_all[j5,eS]
theorem ayE(aO:m.cn.length=32):(j5 m aZ bl c7).length=39:=by simp_all[j5,eS]
theorem agV(aO:m.cn.length=32)(h:fY aZ=true):(j5 m aZ bl c7).all fY=true:=by unfold j5;rw[all_append,Bo h];rfl
theorem ayF:(fV aN).all fY=true:=by
 induction aN with
 | nil=>rfl
 | cons a aN bg=>
  show(bd a++fV aN).all fY=true
  grind[A9]
theorem Ni{ab:au}{cA:ax}{fm:Nat}(hO:aj H ae)(an:ae[i]?=some (p,cA))(n:Nat):nm (cm [ai p fm]) H.next n:=by
 have h:=hO.lt (p,cA) (mem_of_getElem? an);show kh _ [p]=true
 simp_all[kH]
theorem TI(aO:m.cn.length=32)(aB:e8 ae aZ m.aN)(hO:aj H ae)(an:ae[i]?=some (st,⟨j5 m aZ bl c7,true⟩))(ah:aa (.bool (decide (c7=m.aN.length))) H):ay P 191 [ai st 0] H aa:=by apply asY;unfold acP;refine aV (aY hO i an (Nh aO) (aV (ag b7 (aY hO i an (agU aO) (bW aB.bO (ag e2 ?_))))));rw[decide_eq_decide.2 (show((c7:Int)=(m.aN.length:Int))↔c7=m.aN.length by omega)];exact ah
theorem ayG(aO:m.cn.length=32)(hO:aj H ae)(an:ae[i]?=some (st,⟨j5 m aZ bl c7,true⟩))(ah:aa (int c7) H):ay P 192 [ai st 0] H aa:=by apply asZ;unfold acQ;exact aV (aY hO i an (Nh aO) ah)
theorem ayH(ok:m.b4)(aB:e8 ae aZ m.aN)(hO:aj H (ae++L))(an:ae[i]?=some (st,⟨j5 m aZ bl c7,true⟩))(uO:lM bl xs L)(ao:cE xs)(aD:xs.length<=1000000)
  (ah:∀ab,aj ab (ae++L)->aa (.bool (decide (c7=m.aN.length/\gC xs=m.cn))) ab):ay P 193 [ai st 0] H aa:=by
 apply as0;unfold acR;refine TI ok.dh aB.app hO (aL an) (bF (fun h=>?_) (fun h=>?_));refine aV (aY hO i (aL an) (agT ok.dh) ?_);have ez:=hO;refine MA hO uO ao (by omega) ?_;intro cJ hO;refine aV (ag b7 (iH hO i (aL an) (ayC ok.dh) (by rw[oR];exact ok.dh) (by omega) (⟨ho ez i (aL an) hO i (aL an) (agV ok.dh aB.tG),?_⟩)));refine ag (axk _ qn ok.dh) (ag (gA h) ?_);have:=ah cJ hO;rw[decide_eq_decide.2 (show(c7=m.aN.length/\gC xs=m.cn)↔gC xs=m.cn from⟨fun h=>h.2,fun h2=>⟨h,h2⟩⟩)]at this;exact this;refine ag (gP h) ?_;have:=ah H hO;rw[decide_eq_false (fun h2=>h h2.1)]at this;exact this
theorem ayI(ok:m.b4)(U:eG m)(aB:e8 ae aZ m.aN)(hO:aj H (ae++L))(an:ae[i]?=some (st,⟨j5 m aZ bl c7,true⟩))(uO:lM bl xs L)(ao:cE xs)(aD:xs.length<=1000000)
  (aM:RdB ae w bh) (ba:cE bh) (gR:bh.length<=1000000) (Gb:c7<m.aN.length)
  (eU:¬((bh.length:Int)=(gy m c7).2/\gC bh=m.aN[c7])->∀ab,aj ab (ae++L)->aa (int 152) ab)
  (pZ:((bh.length:Int)=(gy m c7).2/\gC bh=m.aN[c7])->∀ab cL,lM bl (xs++bh) cL->aj ab (ae.set i (st,⟨j5 m aZ bl (c7+1),true⟩)++cL)->aa (int 0) ab):
  ay P 199 [ai st 0,int c7,w] H aa:=by
 apply as6;unfold acX;have tf:=(List.getElem?_eq_some_iff.1 an).1;refine e3 (fun aA ab=>aA=[ai st 0,int c7,w]/\H=ab) ?_ ?_;exact TI ok.dh aB.app hO (aL an) (sF (by omega) (aV (aY hO i (aL an) (Nh ok.dh) (ag ij (ag (gP (by omega)) (sF (fun h=>h rfl) (⟨rfl,rfl⟩)))))));rintro aA ab ⟨rfl,rfl⟩
 try simp only[cj,ck]
 refine e3 (fun aA ab=>aA=[ai st 0,w]/\aj ab (ae++L)/\((bh.length:Int)=(gy m c7).2/\gC bh=m.aN[c7])) ?_ ?_;refine aV (iH hO i (aL an) (ayB ok.dh) (eS ok.dh) (by omega) (TH ok aB.app hO ?_));intro H hO;refine ag rfl (ag rfl (bW aM.bO (ag ij (bF (fun h=>?_) (fun h=>?_)))));exact ag (gA h) (eT rfl (eU (fun h2=>h h2.1) H hO));obtain⟨a,mC,bV,rfl⟩:=aM.lk;refine ik hO (afj _ _ _ _) ?_;have tx:=hO;intro q bB hO;have ez:=hO;refine St hO (az (ae:=ae++L) (k:=0) rfl) aM.app.app ba (by omega) ?_;intro cJ hO;refine aV (ag b7 (aY hO i (aL (aL an)) (agU ok.dh) (⟨ho ez i (aL (aL an)) hO i (aL (aL an)) (agV ok.dh aB.tG),Ni (ab:=H) tx (aL an) _,?_⟩)));obtain⟨c0,cc,IG,jv,rfl,Nj⟩:=aB.bc (by omega);refine ag (jD (by omega) (by omega)) (iH hO IG (aL (aL Nj)) (MH ok.ea (y:=c7) Gb) (by rw[oR];exact ok.ea _ (getElem_mem Gb)) (by omega) ?_);have dC:(⟨fV m.aN,jv⟩:ax).wr=true\/(⟨fV m.aN,jv⟩:ax).cells≠[]:=.inr fun e=>by
  have e:fV m.aN=[]:=e;have:=agR ok.ea
  grind
 refine⟨ho ez IG (aL (aL Nj)) hO IG (aL (aL Nj)) ayF dC,Ni (ab:=H) tx (aL Nj) _,?_⟩;refine ag (MJ _ qn (ok.ea _ (getElem_mem Gb))) (ag (gP h) (bF (fun h2=>?_) (fun h2=>?_)));exact eU (fun h3=>h2 h3.2) cJ hO.left;exact⟨rfl,hO.left,by omega,Classical.not_not.1 h2⟩;rintro aA H ⟨rfl,hO,zI⟩
 try simp only[cj,ck]
 refine aV (aY hO i (aL an) (agT ok.dh) (zA hO uO aM ao ba (by omega) (by omega) ?_));intro H cL hO TJ;refine aV (aY hO i (aL an) (Nh ok.dh) ?_);have aU:=ok.n;refine ag (yq (b:=1) (by omega)) (aV (fR hO i (aL an) rfl (by rw[ayE ok.dh];omega) (ayD ok.dh) ?_));intro H hO;rw[set_append_left _ _ tf]at hO;exact pZ zI H cL TJ hO
end J
namespace J
open Go Go.Ab
variable[cu:b0]
end J
namespace J
open Go Go.Ab
variable[cu:b0]
variable{H:au}{S T e9:List (Nat×ax)}{aa:VH}{v aZ kv sv cM:Value}{bs:List Int}{p q r n k f bl st c7 c:Nat}{e bj:Int}{aq aF:List Value}{m aS:da}{t:pY}{aP:List (List Value)}{dR:List Value}{aN:List (List Int)}{cw:Bool}
inductive ib where
 | hF (a:Int)
 | mN (n:Int) (m:da)
 | body (a:Int) (bs:List Int)
 | dy
def xk(S:List (Nat×ax)):ib->List Value->Prop
 | .hF a,dR=>dR=[.iface 313 (agg [int a])]
 | .mN n m,dR=>∃aZ,dR=[.iface 316 (agg (int n::bN m aZ))]/\e8 S aZ m.aN/\m.b4
 | .body a bs,dR=>∃v,dR=[.iface 327 (agg [int a,v])]/\RdB S v bs/\cE bs
 | .dy,dR=>dR=[.iface 320 (agg [])]
def Du(S:List (Nat×ax))(p:Int×List Int)(dR:List Value):Prop:=∃v,dR=[int p.1,v]/\RdB S v p.2/\cE p.2/\(p.2≠[]->pr S v)
structure gz where
 q:Nat
 r:Nat
 n:Nat
 f:Nat
 aq:List Value
 aP:List (List Value)
def fk(kv:Value)(t:pY)(r1 r2 r3:Nat)(aS:da)(sv cM:Value)(cw:Bool)(bj:Int):List Value:=
 kv::bS t.cF::bT .u64 t.dc::int t.y8::ai r1 0::ai r2 0::ai r3 0::(bN aS sv++[cM,.bool cw,int bj])
def hM(A B C:gz)(c:Nat)(aF:List Value)(T:List (Nat×ax)):List (Nat×ax):=
 (A.q,⟨A.aq,true⟩)::(A.r,⟨dp A.q A.n 2 A.f A.aP.length,true⟩)::(B.q,⟨B.aq,true⟩)::(B.r,⟨dp B.q B.n 1 B.f B.aP.length,true⟩)::(C.q,⟨C.aq,true⟩)::(C.r,⟨dp C.q C.n 1 C.f C.aP.length,true⟩)::(c,⟨aF,true⟩)::T
variable{A B C:gz}{r1 r2 r3:Nat}
theorem TK(aO:aS.cn.length=32)(k:Nat):(fk kv t r1 r2 r3 aS sv cM cw bj)[0+(44+k)]?=[cM,Value.bool cw,int bj][k]?:=by
 unfold fk;rw[show 0+(44+k)=(37+k)+7 by omega];show(bN aS sv++[cM,Value.bool cw,int bj])[37+k]?=_
 simp_all[List.getElem?_append_right,eS]
theorem Dv(aO:aS.cn.length=32):(fk kv t r1 r2 r3 aS sv cM cw bj)[0+44]?=some cM:=TK aO 0
theorem ayJ(aO:aS.cn.length=32):(fk kv t r1 r2 r3 aS sv cM cw bj)[0+45]?=some (.bool cw):=TK aO 1
theorem agW(aO:aS.cn.length=32):(fk kv t r1 r2 r3 aS sv cM cw bj)[0+46]?=some (int bj):=TK aO 2
theorem IM(aO:aS.cn.length=32):(fk kv t r1 r2 r3 aS sv cM cw bj).length=47:=by simp_all[fk,eS]
theorem TL(aO:aS.cn.length=32)(k:Nat)(v:Value):(fk kv t r1 r2 r3 aS sv cM cw bj).set (0+(44+k)) v=kv::bS t.cF::bT .u64 t.dc::int t.y8::ai r1 0::ai r2 0::ai r3 0::(bN aS sv++[cM,Value.bool cw,int bj].set k v):=by
 unfold fk;rw[show 0+(44+k)=(37+k)+7 by omega];show kv::bS t.cF::bT .u64 t.dc::int t.y8::ai r1 0::ai r2 0::ai r3 0::((bN aS sv++[cM,Value.bool cw,int bj]).set (37+k) v)=_
 simp_all[eS]
theorem ayK(aO:aS.cn.length=32)(v:Value):(fk kv t r1 r2 r3 aS sv cM cw bj).set (0+44) v=fk kv t r1 r2 r3 aS sv v cw bj:=TL aO 0 v
theorem ayL(aO:aS.cn.length=32)(d:Bool):(fk kv t r1 r2 r3 aS sv cM cw bj).set (0+45) (.bool d)=fk kv t r1 r2 r3 aS sv cM d bj:=TL aO 1 _
theorem agX(aO:aS.cn.length=32)(e:Int):(fk kv t r1 r2 r3 aS sv cM cw bj).set (0+46) (int e)=fk kv t r1 r2 r3 aS sv cM cw e:=TL aO 2 _
def xl(st:Nat)(m:da)(aZ:Value)(bl c7:Nat)(e9:List (Nat×ax)):List (Nat×ax):=(st,⟨j5 m aZ bl c7,true⟩)::e9
theorem ayN(c:Bool)(p:Nat):(ar P .eql 251 c).f (ai p 0) (.pointer none)=some (.bool false):=by rfl
theorem ayO:(ar P .eql 251 true).f (.pointer none) (.pointer none)=some (.bool true):=by rfl
theorem ayP(aO:aS.cn.length=32)(hO:aj H (S++hM A B C c (fk kv t r1 r2 r3 aS sv (.pointer none) cw bj) T))(ah:aa (int (-1)) H):ay P 134 [ai c 0] H aa:=by apply ab6;unfold RN;exact aV (cB hO 6 rfl (Dv aO) (ag ayO (eT rfl ah)))
theorem ayQ(aO:aS.cn.length=32)(hm:m.cn.length=32)(aB:e8 S aZ m.aN)(hO:aj H (S++hM A B C c (fk kv t r1 r2 r3 aS sv (ai st 0) cw bj) (xl st m aZ bl c7 e9)))(ah:aa (int (if c7=m.aN.length then-2 else(c7:Int))) H):ay P 134 [ai c 0] H aa:=by apply ab6;unfold RN;have an:(S++hM A B C c (fk kv t r1 r2 r3 aS sv (ai st 0) cw bj) (xl st m aZ bl c7 e9))[S.length+7]?=some (st,⟨j5 m aZ bl c7,true⟩):=az rfl;refine aV (cB hO 6 rfl (Dv aO) (ag (ayN _ _) (dP rfl (aV (cB hO 6 rfl (Dv aO) (TI hm aB.app hO an (bF (fun h=>?_) (fun h=>?_))))))));rw[if_pos h]at ah;exact ah;rw[if_neg h]at ah;exact aV (cB hO 6 rfl (Dv aO) (ayG hm hO an ah))
end J
namespace J
open Go Go.Ab
variable[cu:b0]
variable{H:au}{S T e9:List (Nat×ax)}{aa:VH}{v w aZ kv sv:Value}{xs bh:List Int}{i j q r n f bl st c7 c:Nat}{e bj:Int}{aq bE aF:List Value}{m aS:da}{t:pY}{aP:List (List Value)}{dR:List Value}{aN:List (List Int)}{cw:Bool}{A B C:gz}{r1 r2:Nat}
def gz.more(R:gz)(bE:List Value)(dR:List Value):gz:=⟨R.q,R.r,R.n,R.f,bE,R.aP++[dR]⟩
theorem TM(R:gz):(R.more bE dR).aP.length=R.aP.length+1:=by simp[gz.more]
theorem TN(h:aj H (S++((hM A B C c aF T).set 4 (C.q,⟨bE,true⟩)).set 5 (C.r,⟨dp C.q C.n 1 C.f (C.aP.length+1),true⟩))):aj H (S++hM A B (C.more bE dR) c aF T):=by unfold hM;rw[TM];exact h
theorem TO(h:aj H (S++((hM A B C c aF T).set 2 (B.q,⟨bE,true⟩)).set 3 (B.r,⟨dp B.q B.n 1 B.f (B.aP.length+1),true⟩))):aj H (S++hM A (B.more bE dR) C c aF T):=by unfold hM;rw[TM];exact h
theorem IN{dA:List (Nat×ax)}(h:aj H (S++hM A B C c aF T))(al:dA.Sublist T):aj H (S++hM A B C c aF dA):=
 h.sub (List.Sublist.append (List.Sublist.refl _) ((((((((al.cons_cons _).cons_cons _).cons_cons _).cons_cons _).cons_cons _).cons_cons _).cons_cons _)))
theorem IP{dA:List (Nat×ax)}:S++hM A B C c aF (T++dA)=(S++hM A B C c aF T)++dA:=by rw[append_assoc];rfl
theorem ayR:(dq P 320).f []=some (agg []):=by rfl
theorem agY(a:Int):(dq P 313).f [(0,int a)]=some (agg [int a]):=by rfl
theorem ayS(e:Int)(a:Option Addr)(n c:Nat):(dq P 327).f [(0,int e),(1,.slice a n c)]=some (agg [int e,.slice a n c]):=by rfl
theorem ayT(aO:aS.cn.length=32)(ok:m.b4)(aB:e8 S aZ m.aN)(hO:aj H (S++hM A B C c (fk kv t r1 r2 C.r aS sv (ai st 0) cw bj) (xl st m aZ bl c7 e9)))(ka:jk 1 C.n C.f C.aP C.aq)(uO:lM bl xs e9)(ao:cE xs)(aD:xs.length<=1000000)
  (ayU:C.aP.length=C.n->aa (.bool false) H)
  (iY:C.aP.length<C.n->¬(c7=m.aN.length/\gC xs=m.cn)->∀ab,aj ab (S++hM A B C c (fk kv t r1 r2 C.r aS sv (ai st 0) cw 153) (xl st m aZ bl c7 e9))->aa (.bool true) ab)
  (fq:C.aP.length<C.n->(c7=m.aN.length/\gC xs=m.cn)->∀ab bE,jk 1 C.n C.f (C.aP++[[.iface 320 (agg [])]]) bE->aj ab (S++hM A B (C.more bE [.iface 320 (agg [])]) c (fk kv t r1 r2 C.r aS sv (ai st 0) true bj) (xl st m aZ bl c7 e9))->aa (.bool true) ab):
  ay P 135 [ai c 0] H aa:=by
 apply asm;unfold ab7;have l1:=ka.r9;refine aV (cB hO 6 rfl (v:=ai C.r 0) rfl (Nd (i:=5) hO rfl ka.r9 ka.vT (ag e2 (bF (fun h=>?_) (fun h=>?_)))));exact ayU (by omega);have dw:C.aP.length<C.n:=by omega
 refine aV (cB hO 6 rfl (Dv aO) ?_);have dF:aj H ((S++hM A B C c (fk kv t r1 r2 C.r aS sv (ai st 0) cw bj) [(st,⟨j5 m aZ bl c7,true⟩)])++e9):=by rw[<- IP];exact hO
 refine ayH (i:=S.length+7) ok aB.app dF (az rfl) uO ao aD ?_;intro H hO;rw[<- IP]at hO
 replace hO:aj H (S++hM A B C c (fk kv t r1 r2 C.r aS sv (ai st 0) cw bj) (xl st m aZ bl c7 e9)):=hO
 refine ag ix (qj (fun h2=>?_) (fun h2=>?_));have h2:¬(c7=m.aN.length/\gC xs=m.cn):=fun h3=>by simp_all
 refine aV (dt hO 6 rfl rfl (by grind[IM]) ?_);intro H hO;rw[agX aO]at hO;exact iY dw h2 H hO;have h2:c7=m.aN.length/\gC xs=m.cn:=Classical.byContradiction fun h3=>by simp_all
 refine aV (cB hO 6 rfl (v:=ai C.r 0) rfl (ag ayR (Ga (i:=5) (j:=4) hO rfl rfl (by omega) ka rfl (fun h3=>absurd h3 (by omega)) ?_)));intro _ H bE IQ hO
 replace hO:=TN (dR:=[.iface 320 (agg [])]) hO
 refine aV (dt hO 6 rfl rfl (by grind[IM]) ?_);intro H hO;rw[ayL aO]at hO;exact fq dw h2 H bE IQ hO
theorem ayV(aO:aS.cn.length=32)(ok:m.b4)(U:eG m)(aB:e8 S aZ m.aN)(hO:aj H (S++hM A B C c (fk kv t r1 B.r C.r aS sv (ai st 0) cw bj) (xl st m aZ bl c7 e9)))(b6:jk 1 B.n B.f B.aP B.aq)(ka:jk 1 C.n C.f C.aP C.aq)(uO:lM bl xs e9)(ao:cE xs)(aD:xs.length<=1000000)
  (aM:RdB S w bh) (ba:cE bh) (gR:bh.length<=1000000) (Gb:c7<m.aN.length) (jo:B.aP.length<B.n) (rI:C.aP.length<C.n)
  (eU:¬((bh.length:Int)=(gy m c7).2/\gC bh=m.aN[c7])->∀ab bE,jk 1 B.n B.f (B.aP++[[.iface 313 (agg [int c7])]]) bE->aj ab (S++hM A (B.more bE [.iface 313 (agg [int c7])]) C c (fk kv t r1 B.r C.r aS sv (ai st 0) cw bj) (xl st m aZ bl c7 e9))->aa (.tuple [].toArray) ab)
  (pZ:((bh.length:Int)=(gy m c7).2/\gC bh=m.aN[c7])->∀ab bE cL,lM bl (xs++bh) cL->jk 1 C.n C.f (C.aP++[[.iface 327 (agg [int c7,w])]]) bE->aj ab (S++hM A B (C.more bE [.iface 327 (agg [int c7,w])]) c (fk kv t r1 B.r C.r aS sv (ai st 0) cw bj) (xl st m aZ bl (c7+1) cL))->aa (.tuple [].toArray) ab):
  ay P 140 [ai c 0,agg [int c7,w]] H aa:=by
 apply asr;unfold acd;obtain⟨xm,xn,xo,rfl⟩:=aM.lk;rw[sa];refine dH hO ?_;intro eQ H hO;have dF:aj H (((S++hM A B C c (fk kv t r1 B.r C.r aS sv (ai st 0) cw bj) [(st,⟨j5 m aZ bl c7,true⟩)])++[(eQ,⟨[int c7,.slice xm xn xo],true⟩)])++e9):=by refine Iq ?_;rw[<- IP];exact hO
 have hO:=dF;have an:((S++hM A B C c (fk kv t r1 B.r C.r aS sv (ai st 0) cw bj) [(st,⟨j5 m aZ bl c7,true⟩)])++[(eQ,(⟨[int c7,.slice xm xn xo],true⟩:ax))])[S.length+7]?=some (st,⟨j5 m aZ bl c7,true⟩):=aL (az rfl);refine aV (aY hO (S.length+6) (aL (aL (az rfl))) (Dv aO) (ag b7 (aY hO (_+0) (aL (az rfl)) (v:=int c7) rfl (ag b7 (aY hO (_+0) (aL (az rfl)) (v:=.slice xm xn xo) rfl (ayI ok U aB.app.app hO an uO ao aD aM.app.app ba gR Gb ?_ ?_))))));clear hO;intro hg H hO;rw[append_assoc,<- IP]at hO
 replace hO:aj H (S++hM A B C c (fk kv t r1 B.r C.r aS sv (ai st 0) cw bj) ((st,⟨j5 m aZ bl c7,true⟩)::(eQ,⟨[int c7,.slice xm xn xo],true⟩)::e9)):=hO
 refine ag ij (oa (by decide) (aV (cB hO 6 rfl (v:=ai B.r 0) rfl (ag b7 (cB hO 8 rfl (v:=int c7) rfl (ag (agY _) (Ga (i:=3) (j:=2) hO rfl rfl (by omega) b6 rfl (fun h3=>absurd h3 (by omega)) ?_)))))));intro _ H bE IS hO
 replace hO:=TO (dR:=[.iface 313 (agg [int c7])]) hO
 exact eU hg H bE IS (IN hO ((sublist_cons_self _ _).cons_cons _));clear hO;intro hg H cL TJ hO;rw[set_append_left _ _ (by simp[hM]),Go.Ab.cD,append_assoc]at hO
 replace hO:aj H ((S++hM A B C c (fk kv t r1 B.r C.r aS sv (ai st 0) cw bj) [(st,⟨j5 m aZ bl (c7+1),true⟩)])++([(eQ,⟨[int c7,.slice xm xn xo],true⟩)]++cL)):=hO
 rw[<- IP]at hO
 replace hO:aj H (S++hM A B C c (fk kv t r1 B.r C.r aS sv (ai st 0) cw bj) ((st,⟨j5 m aZ bl (c7+1),true⟩)::(eQ,⟨[int c7,.slice xm xn xo],true⟩)::cL)):=hO
 refine ag ij (sF (fun h=>h rfl) (aV (cB hO 6 rfl (v:=ai C.r 0) rfl (ag b7 (cB hO 8 rfl (v:=int c7) rfl (ag b7 (cB hO 8 rfl (v:=.slice xm xn xo) rfl (ag (ayS _ _ _ _) (Ga (i:=5) (j:=4) hO rfl rfl (by omega) ka rfl (fun h3=>absurd h3 (by omega)) ?_)))))))));intro _ H bE IQ hO
 replace hO:=TN (dR:=[.iface 327 (agg [int c7,.slice xm xn xo])]) hO
 exact pZ hg H bE cL TJ IQ (IN hO ((sublist_cons_self _ _).cons_cons _))
end J
namespace J
open Go Go.Ab
variable[cu:b0]
variable{H:au}{S:List (Nat×ax)}{aZ kv sv cM:Value}{n k f c:Nat}{e bj:Int}{aF:List Value}{m aS:da}{t:pY}{aN:List (List Int)}{cw:Bool}{r1 r2 r3:Nat}
theorem ayW{X c4:List (Nat×ax)}(h:aj H ((S++c4)++X)):aj H ((S++X)++c4):=h.fj (by rw[append_assoc,append_assoc];exact List.Perm.append_left S perm_append_comm)
theorem ayX(aO:aS.cn.length=32):((fk kv t r1 r2 r3 aS sv cM cw bj).drop (0+1)).take 3=sR t:=rfl
theorem ayY(aO:aS.cn.length=32)(hm:m.cn.length=32):(fk kv t r1 r2 r3 aS sv cM cw bj).take (0+7)++(bN m aZ++(fk kv t r1 r2 r3 aS sv cM cw bj).drop (0+7+37))=fk kv t r1 r2 r3 m aZ cM cw bj:=by
 unfold fk;have e:(kv::bS t.cF::bT .u64 t.dc::int t.y8::ai r1 0::ai r2 0::ai r3 0::(bN aS sv++[cM,Value.bool cw,int bj])).drop (0+7+37)=[cM,Value.bool cw,int bj]:=by
  show((bN aS sv++[cM,Value.bool cw,int bj])).drop 37=_
  simp_all[eS]
 rw[e];rfl
theorem agZ(aO:m.cn.length=32)(n:Int)(a:Option Addr)(k c:Nat):(dq P 316).f [(0,int n),(1,agg (bN m (.slice a k c)))]=some (agg (int n::bN m (.slice a k c))):=by
 obtain⟨cF,cV,cT,aF,cn,aN⟩:=m;have aO:cn.length=32:=aO
 match cn,aO with
 | [a0,cU,cR,a3,a4,a5,kp,ln,mR,a9,SV,SW,SX,SY,SZ,S0,C1,Ta,Tb,Tc,a20,a21,Td,Te,Tf,Tg,Th,Ti,Tj,Tk,Tl,Tm],_=>rfl
end J
namespace J
open Go Go.Ab
variable[cu:b0]
variable{H:au}{S e9:List (Nat×ax)}{aa:VH}{v w aZ kv sv:Value}{b key:List Int}{i j r n f bl st c:Nat}{bj:Int}{aq bE:List Value}{m aS:da}{t:pY}{aP:List (List Value)}{dR:List Value}{aN:List (List Int)}{cw:Bool}{A B C:gz}{r1:Nat}
theorem ayZ:nV m t=0↔eG m/\kc m.cF=kc t.cF/\¬m.cV<t.dc/\¬m.cT>t.y8:=by
 unfold nV
 grind
theorem ay0(aO:aS.cn.length=32)(hO:aj H (S++hM A B C c (fk kv t r1 B.r C.r aS sv (.pointer none) cw bj) []))(b6:jk 1 B.n B.f B.aP B.aq)(ka:jk 1 C.n C.f C.aP C.aq)
  (wY:RdB S kv key) (ak:cE key) (l1:key.length<=1000000) (aM:RdB S w b) (mH:cE b) (ph:b.length<=1000000) (ht:t.cF.length<=1000000) (jo:B.aP.length<B.n) (rI:C.aP.length<C.n)
  (iY:(e4 key b).2.2≠0->∀ab bE,jk 1 B.n B.f (B.aP++[[.iface 313 (agg [int (-1)])]]) bE->aj ab (S++hM A (B.more bE [.iface 313 (agg [int (-1)])]) C c (fk kv t r1 B.r C.r aS sv (.pointer none) cw bj) [])->aa (.tuple [].toArray) ab)
  (ay1:(e4 key b).2.2=0->nV (e4 key b).1 t≠0->∀ab,aj ab (S++hM A B C c (fk kv t r1 B.r C.r aS sv (.pointer none) cw (nV (e4 key b).1 t)) [])->aa (.tuple [].toArray) ab)
  (fq:(e4 key b).2.2=0->nV (e4 key b).1 t=0->eG (e4 key b).1->∀ab X aZ oW st bl e9 mG FZ,lM bl [] e9->e8 X aZ (e4 key b).1.aN->e8 X oW (e4 key b).1.aN->
   jk 1 B.n B.f (B.aP++[[.iface 316 (agg (int (e4 key b).2.1::bN (e4 key b).1 aZ))]]) mG->jk 1 C.n C.f (C.aP++[[.iface 316 (agg (int (e4 key b).2.1::bN (e4 key b).1 aZ))]]) FZ->
   aj ab ((S++X)++hM A (B.more mG [.iface 316 (agg (int (e4 key b).2.1::bN (e4 key b).1 aZ))]) (C.more FZ [.iface 316 (agg (int (e4 key b).2.1::bN (e4 key b).1 aZ))]) c (fk kv t r1 B.r C.r (e4 key b).1 aZ (ai st 0) cw bj) (xl st (e4 key b).1 oW bl 0 e9))->aa (.tuple [].toArray) ab):
  ay P 139 [ai c 0,w] H aa:=by
 apply asq;unfold acb;have ok:=agy (key:=key) mH ph;have vv:=agw (key:=key) mH ph;refine aV (cB hO 6 rfl (v:=kv) rfl (ax2 hO wY.app aM.app ak mH l1 ph ?_));intro H aZ hO h1;generalize e4 key b=hJ at*;obtain⟨m,xO,ei⟩:=hJ;simp only at*;have hO:=ayW hO;have IT:e8 (S++bQ aZ (fV m.aN)) aZ m.aN:=h1.app';generalize w7:bQ aZ (fV m.aN)=X at*;refine ag ax9 (ag aya (ag ayb ?_));rw[yp];refine j3 hO ?_;intro c1 H hO
 replace hO:aj H ((S++X)++hM A B C c (fk kv t r1 B.r C.r aS sv (.pointer none) cw bj) [(c1,⟨bN eY bu,true⟩)]):=hO
 refine lr hO 7 rfl rfl (eS ok.dh) (nt h1.fh) ?_;intro H hO
 replace hO:aj H ((S++X)++hM A B C c (fk kv t r1 B.r C.r aS sv (.pointer none) cw bj) [(c1,⟨bN m aZ,true⟩)]):=hO
 refine ag ij (bF (fun he=>?_) (fun he=>?_));refine aV (cB hO 6 rfl (v:=ai B.r 0) rfl (ag (agY _) (Ga (i:=3) (j:=2) hO rfl rfl (by omega) b6 rfl (fun h3=>absurd h3 (by omega)) ?_)));intro _ H bE IS hO
 replace hO:=IN (TO (dR:=[.iface 313 (agg [int (-1)])]) hO) (nil_sublist _)
 refine iY he H bE IS ?_;rw[append_assoc]at hO;exact SA hO;have he:ei=0:=Classical.not_not.1 he;refine jN hO 7 rfl (eS ok.dh) (by omega) (aV (iH hO ((S++X).length+6) (az rfl) (ayX aO) rfl (by omega) (ayl ok IT.app ht hO ?_)));intro H hO;refine ag ij (bF (fun bn=>?_) (fun bn=>?_));refine aV (dt hO 6 rfl rfl (by grind[IM]) ?_);intro H hO;rw[agX aO]at hO
 replace hO:aj H ((S++X)++hM A B C c (fk kv t r1 B.r C.r aS sv (.pointer none) cw (nV m t)) [(c1,⟨bN m aZ,true⟩)]):=hO
 refine ay1 he bn H ?_;have hO:=IN hO (nil_sublist _);rw[append_assoc]at hO;exact SA hO;have bn:nV m t=0:=Classical.not_not.1 bn;have U:eG m:=(ayZ.1 bn).1;refine jN hO 7 rfl (eS ok.dh) (by omega) (aV (pR hO ((S++X).length+6) (az rfl) (eS ok.dh) (by grind[IM]) (nt h1.fh) ?_));intro H hO
 replace hO:=hO.cD
 rw[sa,ayY aO ok.dh]at hO
 replace hO:aj H ((S++X)++hM A B C c (fk kv t r1 B.r C.r m aZ (.pointer none) cw bj) [(c1,⟨bN m aZ,true⟩)]):=hO
 refine jN hO 7 rfl (eS ok.dh) (by omega) (ayA ok IT.app U hO ?_);intro H oW bl e9 st uO h2 hO;generalize aGd:bQ oW (fV m.aN)=hd at*
 replace hO:aj H ((((S++X)++(hM A B C c (fk kv t r1 B.r C.r m aZ (.pointer none) cw bj) []++[(c1,⟨bN m aZ,true⟩)]))++hd)++(e9++[(st,⟨j5 m oW bl 0,true⟩)])):=hO
 have dF:aj H ((S++(X++hd))++(hM A B C c (fk kv t r1 B.r C.r m aZ (.pointer none) cw bj) []++([(st,⟨j5 m oW bl 0,true⟩)]++([(c1,⟨bN m aZ,true⟩)]++e9)))):=hO.fj (by classical exact perm_iff_count.2 fun _=>by grind);have hO:aj H ((S++(X++hd))++hM A B C c (fk kv t r1 B.r C.r m aZ (.pointer none) cw bj) ((st,⟨j5 m oW bl 0,true⟩)::(c1,⟨bN m aZ,true⟩)::e9)):=dF;refine ag rfl (ag rfl (aV (dt hO 6 rfl rfl (by rw[IM ok.dh];omega) ?_)));intro H hO;rw[ayK ok.dh]at hO
 replace hO:aj H ((S++(X++hd))++hM A B C c (fk kv t r1 B.r C.r m aZ (ai st 0) cw bj) ((st,⟨j5 m oW bl 0,true⟩)::(c1,⟨bN m aZ,true⟩)::e9)):=hO
 refine aV (cB hO 6 rfl (v:=ai B.r 0) rfl (jN hO 8 rfl (eS ok.dh) (by omega) ?_));obtain⟨gg,fQ,cc,rfl⟩:=h1.lk;refine ag (agZ ok.dh _ _ _ _) (Ga (i:=3) (j:=2) hO rfl rfl (by omega) b6 rfl (fun h3=>absurd h3 (by omega)) ?_);intro _ H mG IS hO
 replace hO:=TO (dR:=[.iface 316 (agg (int xO::bN m (.slice gg fQ cc)))]) hO
 refine aV (cB hO 6 rfl (v:=ai C.r 0) rfl (jN hO 8 rfl (eS ok.dh) (by omega) (ag (agZ ok.dh _ _ _ _) (Ga (i:=5) (j:=4) hO rfl rfl (by omega) ka rfl (fun h3=>absurd h3 (by omega)) ?_))));intro _ H FZ IQ hO
 replace hO:=TN (dR:=[.iface 316 (agg (int xO::bN m (.slice gg fQ cc)))]) hO
 refine fq he bn U H (X++hd) _ oW st bl e9 mG FZ uO ?_ ?_ IS IQ (IN hO ((sublist_cons_self _ _).cons_cons _));exact h1.app;exact h2.app'
end J
namespace J
open Go Go.Ab
variable[cu:b0]
variable{H:au}{ae S T:List (Nat×ax)}{aa:VH}{v kv:Value}{key:List Int}{q r n f c:Nat}{e:Int}{bE aF:List Value}{t:pY}{aP:List (List Value)}{A B C:gz}{r1 r2 r3:Nat}
def gz.ef(R:gz)(bE:List Value)(TP:List (List Value)):gz:=⟨R.q,R.r,R.n,(R.f+1)%R.n,bE,TP⟩
theorem ay2(h:aj H (S++((hM A B C c aF T).set 0 (A.q,⟨bE,true⟩)).set 1 (A.r,⟨dp A.q A.n 2 ((A.f+1)%A.n) aP.length,true⟩))):aj H (S++hM (A.ef bE aP) B C c aF T):=h
theorem ay3(kv:Value)(t:pY)(r1 r2 r3:Nat)(a:Option Addr)(n c:Nat)(ah:kv=.slice a n c):(dq P 253).f [(0,kv),(1,agg (sR t)),(2,ai r1 0),(3,ai r2 0),(4,ai r3 0)]=some (agg (fk kv t r1 r2 r3 eY bu (.pointer none) false 0)):=by subst ah;rfl
theorem ay4(hO:aj H ae)(wY:RdB ae v key)(l1:key.length<=1000000)
  (ah:∀ab kv nP c,aj ab ((ae++bQ kv nP)++[(c,⟨fk kv t r1 r2 r3 eY bu (.pointer none) false 0,true⟩)])->gf kv key nP->aa (ai c 0) ab):ay P 81 [v,agg (sR t),ai r1 0,ai r2 0,ai r3 0] H aa:=by
 apply arO;unfold abz;rw[agD];refine j3 hO.z ?_;intro gQ H hO
 replace hO:aj H (ae++[(gQ,⟨sR t,true⟩)]):=hO
 have ez:=hO;refine L9 hO wY.app (by omega) ?_;intro cJ kv nP hO Nk;refine gh hO (ae.length+0) (aL (az rfl)) (n:=3) rfl (by omega) (⟨ho ez (ae.length+0) (az rfl) hO (ae.length+0) (aL (az rfl)) rfl,?_⟩);obtain⟨a,n,bV,e⟩:=Nk.lY.lk;refine ag (ay3 kv t r1 r2 r3 a n bV e) ?_;rw[sa];refine dH hO ?_;intro c H hO;refine ah H kv nP c (hO.sub ?_) Nk;simp only[append_assoc];exact List.Sublist.append (List.Sublist.refl ae) (sublist_append_right [(gQ,_)] _)
end J
