/- texts of the pv, gd behind the oq -/
import Derived.Test.YtifflnhooaophaaGreatDoorUH
set_option linter.unusedVariables false
set_option linter.unusedSimpArgs false
set_option linter.unusedSectionVars false
set_option maxHeartbeats 4000000
set_option maxRecDepth 100000
namespace J
open Go Go.Ab
variable[cu:b0]
variable{H:au}{Γ L:List (Nat×az)}{aa:VH}{v:Value}{b:List Int}{i j q r n k f c7:Nat}{e:Int}{ar bx:List Value}{l:List UInt8}{aP:List (List Value)}{dX:List Value}
def c8(q n c7 f k:Nat):List Value:=[aF q 0 n (2*c7+1),int f,int k,.bool false]
structure ik (c7 n f:Nat) (aP:List (List Value)) (ar:List Value):Prop where
 e8:1<=n
 uG:n<=16
 c6:f<n
 q4:aP.length<=n
 len:ar.length=n*c7
 B1:∀e∈aP,e.length=c7
 kv:∀j (h:j<aP.length),(ar.drop (((f+j)%n)*c7)).take c7=aP[j]
theorem EE(aX:1<=n)(j:Nat):(f+j)%n<n:=Nat.mod_lt _ (by omega)
theorem aeG{j:Nat}(hf:f<n)(bp:j<n):(f+j)%n=if f+j<n then f+j else f+j-n:=by
 split
 ·simp_all[Nat.mod_eq_of_lt]
 ·rw[Nat.mod_eq_sub_mod (by omega),Nat.mod_eq_of_lt (by omega)]
theorem aeH{j k:Nat}(hf:f<n)(bp:j<k)(ag:k<n):(f+j)%n≠(f+k)%n:=by
 rw[aeG hf ag,aeG hf (by omega)]
 grind
theorem aeI{a:Nat}(h:a<n)(aD:ar.length=n*c7)(he:dX.length=c7):(ar.take (a*c7)++(dX++ar.drop (a*c7+c7))).length=n*c7:=by
 have:a*c7+c7<=n*c7:=by rw[<- Nat.succ_mul];exact Nat.mul_le_mul_right _ h
 grind
theorem avV{a:Nat}(h:a<n)(aD:ar.length=n*c7)(he:dX.length=c7):((ar.take (a*c7)++(dX++ar.drop (a*c7+c7))).drop (a*c7)).take c7=dX:=by grind[Nat.mul_le_mul_right]
theorem aeJ{a c:Nat}(h:a<n)(aA:c<n)(dj:a≠c)(aD:ar.length=n*c7)(he:dX.length=c7):((ar.take (a*c7)++(dX++ar.drop (a*c7+c7))).drop (c*c7)).take c7=(ar.drop (c*c7)).take c7:=by
 have ad:a*c7+c7<=n*c7:=by rw[<- Nat.succ_mul];exact Nat.mul_le_mul_right _ h
 have af:c*c7+c7<=n*c7:=by rw[<- Nat.succ_mul];exact Nat.mul_le_mul_right _ aA
 apply List.ext_getElem?;intro y;rw[List.getElem?_take,List.getElem?_take];split
 ·rename_i ba;rw[List.getElem?_drop,List.getElem?_drop];rcases Nat.lt_or_gt_of_ne dj with ax|ax
  ·have aO:a*c7+c7<=c*c7:=by rw[<- Nat.succ_mul];exact Nat.mul_le_mul_right _ ax
   grind
  ·have aO:c*c7+c7<=a*c7:=by rw[<- Nat.succ_mul];exact Nat.mul_le_mul_right _ ax
   grind
 ·rfl
theorem ik.aeK(h:ik c7 n f aP ar)(ag:aP.length<n)(he:dX.length=c7):ik c7 n f (aP++[dX]) (ar.take (((f+aP.length)%n)*c7)++(dX++ar.drop (((f+aP.length)%n)*c7+c7))):=by
 have aV:=EE (f:=f) h.e8 aP.length;refine⟨h.e8,h.uG,h.c6,by grind,aeI aV h.len he,?_,?_⟩
 ·intro e aV;rcases List.mem_append.1 aV with ad|ad
  ·exact h.B1 e ad
  simp_all
 ·intro j bp;by_cases ad:j<aP.length
  ·rw[aeJ aV (EE h.e8 j) (aeH h.c6 ad ag).symm h.len he,List.getElem_append_left ad];exact h.kv j ad
  ·have:j=aP.length:=by grind
   subst this;rw[avV aV h.len he];simp
theorem ik.aeL(h:ik c7 n f (dX::aP) ar){z:List Value}(eu:z.length=c7):ik c7 n ((f+1)%n) aP (ar.take (f*c7)++(z++ar.drop (f*c7+c7))):=by
 have ag:=h.q4;rw[List.length_cons]at ag;refine⟨h.e8,h.uG,EE h.e8 1,by omega,aeI h.c6 h.len eu,fun e aV=>h.B1 e (List.mem_cons_of_mem _ aV),?_⟩;intro j bp;have bn:((f+1)%n+j)%n=(f+(j+1))%n:=by grind[Nat.mod_add_mod]
 have bF:f≠(f+(j+1))%n:=by have:=aeH (f:=f) (j:=0) (k:=j+1) h.c6 (by omega) (by omega);rw[Nat.add_zero,Nat.mod_eq_of_lt h.c6]at this;exact this
 rw[bn,aeJ h.c6 (EE h.e8 (j+1)) bF h.len eu];exact h.kv (j+1) (by grind)
theorem ik.head(h:ik c7 n f (dX::aP) ar):(ar.drop (f*c7)).take c7=dX:=by have:=h.kv 0 (by simp);rw[Nat.add_zero,Nat.mod_eq_of_lt h.c6]at this;exact this
theorem aeM(hO:al H (Γ++L))(aq:L[i]?=some (r,⟨c8 q n 2 f k,true⟩))(ag:k<=n)(aX:n<=16)(mq:aa (int ((n-k:Nat):Int)) H):wCall P 128 [ak r 0] H aa:=by apply apO;unfold ZR;refine aY (cI hO i aq (v:=.bool false) rfl (eX rfl (aY (cI hO i aq (v:=aF q 0 n 5) rfl (cH xO (aY (cI hO i aq (v:=int k) rfl (ai (nL (by omega) (by omega)) ?_))))))));rw[show((n-k:Nat):Int)=(n:Int)-k by omega]at mq;exact mq
theorem aeN(hO:al H (Γ++L))(aq:L[i]?=some (r,⟨c8 q n 2 f k,true⟩))(hf:f<n)(aX:n<=16)(bp:j<=16)(mq:aa (int (((f+j)%n:Nat):Int)) H):wCall P 189 [ak r 0,int j] H aa:=by apply aqu;unfold aaK;exact aY (cI hO i aq (v:=int f) rfl (ai (ED (by omega)) (aY (cI hO i aq (v:=aF q 0 n 5) rfl (cH xO (ai (Hf (by omega)) mq))))))
theorem avW(hO:al H (Γ++L))(aq:L[i]?=some (r,⟨c8 q n 2 f k,true⟩))(mq:aa (int k) H):wCall P 136 [ak r 0] H aa:=by apply apV;unfold ZZ;exact aY (cI hO i aq (v:=int k) rfl mq)
theorem uH(l:List Value):dp (agg l)=l:=rfl
theorem avX{a:Int}{v:Value}(hO:al H (Γ++L))(aq:L[i]?=some (r,⟨c8 q n 2 f aP.length,true⟩))(bp:L[j]?=some (q,⟨ar,true⟩))(qc:i≠j)(h:ik 2 n f aP ar)(hv:fH v=true)(jZ:eP v=true)
  (eT:aP.length=n->∀ab,al ab (Γ++L)->aa (.bool false) ab)
  (ph:aP.length<n->∀ab bx,ik 2 n f (aP++[[int a,v]]) bx->al ab (Γ++((L.set j (q,⟨bx,true⟩)).set i (r,⟨c8 q n 2 f (aP.length+1),true⟩)))->aa (.bool true) ab):
  wCall P 130 [ak r 0,agg [int a,v]] H aa:=by
 apply apQ;unfold ZT;have gi:=h.q4;have pd:=h.uG;have s6:=(List.getElem?_eq_some_iff.1 aq).1;have qM:=(List.getElem?_eq_some_iff.1 bp).1;rw[uH];refine j8 hO ?_;clear hO;intro fm H hO;have gN:=aS (L:=[(fm,(⟨[int a,v],true⟩:az))]) aq;have o2:=aS (L:=[(fm,(⟨[int a,v],true⟩:az))]) bp;refine aeM hO gN gi pd (ai fz (bT (fun aR=>?_) (fun aR=>?_)))
 ·exact eT (by omega) H (BR hO)
 have ea:aP.length<n:=by omega
 have aV:=EE (f:=f) h.e8 aP.length;refine aY (cI hO i gN (v:=aF q 0 n 5) rfl (aY (cI hO i gN (v:=int aP.length) rfl (aeN hO gN h.c6 pd (by omega) (⟨ha hO (Γ.length+i) (aC gN) hO (Γ.length+i) (aC gN) rfl,?_⟩)))));refine hi hO (Γ.length+L.length) (aC (List.getElem?_concat_length ..)) rfl (by omega) ?_;refine⟨ha hO (Γ.length+L.length) (aC (List.getElem?_concat_length ..)) hO (Γ.length+L.length) (aC (List.getElem?_concat_length ..)) (by simp[hv];rfl),?_⟩;refine ai (ky (by omega) (by omega)) ?_;have IB:0+(((f+aP.length)%n:Nat):Int).toNat*2=((f+aP.length)%n)*2:=by omega
 rw[IB];have kP:(f+aP.length)%n*2+2<=ar.length:=by rw[h.len];omega
 refine o9 hO (Γ.length+j) (aC o2) (by rfl) kP (by simp[uH,jZ];rfl) ?_;clear hO;intro H hO
 replace hO:=hO.cy
 rw[List.set_append_left _ _ qM]at hO;have aw:ik 2 n f (aP++[[int a,v]]) (ar.take (((f+aP.length)%n)*2)++(dp (agg [int a,v])++ar.drop (((f+aP.length)%n)*2+2))):=h.aeK ea rfl;generalize ar.take (((f+aP.length)%n)*2)++(dp (agg [int a,v])++ar.drop (((f+aP.length)%n)*2+2))=cp at*;have sb:=aS (L:=[(fm,(⟨[int a,v],true⟩:az))]) ((List.getElem?_set_ne (by omega:j≠i):(L.set j (q,(⟨cp,true⟩:az)))[i]?=L[i]?).trans aq);refine aY (cI hO i sb (v:=int aP.length) rfl (ai (ED (b:=1) (by omega)) (aY (c4 hO i sb rfl (by simp[c8]) ?_))));clear hO;intro H hO;rw[List.set_append_left _ _ (by simp_all)]at hO;exact ph ea H cp aw (BR hO)
end J
namespace J
open Go Go.Ab
variable[cu:b0]
variable{H:au}{Γ L:List (Nat×az)}{aa:VH}{v:Value}{b:List Int}{i j q r n f:Nat}{e:Int}{ar bx:List Value}{aP:List (List Value)}{dX:List Value}
theorem R4:dq P 179=[int 0,bB]:=by rfl
def LC(z:List Value):List (List Value)->List Value
 | []=>z
 | dX::_=>dX
def aeO:List (List Value)->Bool
 | []=>false
 | _::_=>true
theorem gg{A:List Value}(h:A.length=2):∃a b,A=[a,b]:=by
 match A,h with
 | [a,b],_=>simp_all
theorem LD{A:List Value}(h:A.length=1):∃a,A=[a]:=by
 match A,h with
 | [a],_=>simp_all
theorem avY(hO:al H (Γ++L))(aq:L[i]?=some (r,⟨c8 q n 2 f aP.length,true⟩))(bp:L[j]?=some (q,⟨ar,true⟩))(h:ik 2 n f aP ar)(ad:∀e∈aP,e.all eP=true)
  (ag:∀ab,al ab (Γ++L)->aa (.tuple [agg (LC [int 0,bB] aP),.bool (aeO aP)].toArray) ab):wCall P 195 [ak r 0] H aa:=by
 apply aqA;unfold aaQ;have pd:=h.uG;rw[R4];refine j8 hO ?_;clear hO;intro bI H hO;refine j8 hO ?_;clear hO;intro cY H hO;rw[List.append_assoc]at hO
 replace hO:al H (Γ++(L++[(bI,⟨[int 0,bB],true⟩),(cY,⟨[int 0,bB],true⟩)])):=hO
 have gN:=aS (L:=[(bI,(⟨[int 0,bB],true⟩:az)),(cY,⟨[int 0,bB],true⟩)]) aq;have o2:=aS (L:=[(bI,(⟨[int 0,bB],true⟩:az)),(cY,⟨[int 0,bB],true⟩)]) bp;refine aY (cI hO i gN (v:=int aP.length) rfl (ai fz ?_));cases aP with
 | nil=>refine nK rfl (jj hO (L.length+1) (aC rfl) rfl (by omega) (lo hO (L.length+0) (aC rfl) rfl rfl rfl ?_));clear hO;intro H hO;rw[Go.Ab.cy]at hO;exact jj hO (L.length+0) (aC rfl) rfl (by omega) (ag H (BR hO))
 | cons dX aP=>refine tb (by grind) ?_;have af:=h.B1 dX (by simp);have ax:=ad dX (by simp);have hf:=h.c6;refine aY (cI hO i gN (v:=aF q 0 n 5) rfl (aY (cI hO i gN (v:=int f) rfl (ai (ky (by omega) (by omega)) ?_))));rw[show 0+((f:Nat):Int).toNat*2=f*2 by omega];refine jM hO (Γ.length+j) (aC o2) h.head af (by omega) (lo hO (L.length+0) (aC rfl) rfl af ax ?_);clear hO;intro H hO;rw[Go.Ab.cy]at hO;exact jj hO (L.length+0) (aC rfl) af (by omega) (ag H (BR hO))
theorem avZ(hO:al H (Γ++L))(aq:L[i]?=some (r,⟨c8 q n 2 f aP.length,true⟩))(bp:L[j]?=some (q,⟨ar,true⟩))(qc:i≠j)(h:ik 2 n f aP ar)(ad:∀e∈aP,e.all eP=true)
  (eT:aP=[]->∀ab,al ab (Γ++L)->aa (.tuple [agg [int 0,bB],.bool false].toArray) ab)
  (ph:∀dX bu,aP=dX::bu->∀ab bx,ik 2 n ((f+1)%n) bu bx->al ab (Γ++((L.set j (q,⟨bx,true⟩)).set i (r,⟨c8 q n 2 ((f+1)%n) bu.length,true⟩)))->aa (.tuple [agg dX,.bool true].toArray) ab):
  wCall P 138 [ak r 0] H aa:=by
 apply apX;unfold aaa;have pd:=h.uG;have hf:=h.c6;have s6:=(List.getElem?_eq_some_iff.1 aq).1;have qM:=(List.getElem?_eq_some_iff.1 bp).1;rw[R4];refine j8 hO ?_;clear hO;intro bI H hO;refine avY hO (aS aq) (aS bp) h ad ?_;clear hO;intro H hO;refine ai rfl (ai rfl (j8 hO ?_));clear hO;intro cY H hO;rw[List.append_assoc]at hO
 replace hO:al H (Γ++(L++[(bI,⟨[int 0,bB],true⟩),(cY,⟨[int 0,bB],true⟩)])):=hO
 have B2:(LC [int 0,bB] aP).length=2:=by
  cases aP with
  | nil=>rfl
  | cons dX aP=>exact h.B1 dX (by simp)
 have R5:(LC [int 0,bB] aP).all eP=true:=by
  cases aP with
  | nil=>rfl
  | cons dX aP=>exact ad dX (by simp)
 refine lo hO (L.length+1) (aC rfl) rfl B2 R5 ?_;clear hO;intro H hO;rw[Go.Ab.cy]at hO
 replace hO:al H (Γ++(L++[(bI,⟨[int 0,bB],true⟩),(cY,⟨LC [int 0,bB] aP,true⟩)])):=hO
 cases aP with
 | nil=>refine eX rfl (jj hO (L.length+1) (aC rfl) B2 (by omega) (lo hO (L.length+0) (aC rfl) rfl B2 R5 ?_));clear hO;intro H hO;rw[Go.Ab.cy]at hO;exact jj hO (L.length+0) (aC rfl) B2 (by omega) (eT rfl H (BR hO))
 | cons dX aP=>
  have kF:=h.q4;rw[List.length_cons]at kF;refine fU rfl (j8 hO ?_);clear hO;intro gP H hO;rw[List.append_assoc]at hO
  replace hO:al H (Γ++(L++[(bI,⟨[int 0,bB],true⟩),(cY,⟨dX,true⟩),(gP,⟨[int 0,bB],true⟩)])):=hO
  generalize bk:[(bI,(⟨[int 0,bB],true⟩:az)),(cY,⟨dX,true⟩),(gP,⟨[int 0,bB],true⟩)]=T at*;have gN:=aS (L:=T) aq;have o2:=aS (L:=T) bp;refine aY (cI hO i gN (v:=aF q 0 n 5) rfl (aY (cI hO i gN (v:=int f) rfl (jj hO (L.length+2) (aC (by rw[<- bk];rfl)) rfl (by omega) (ai (ky (by omega) (by omega)) ?_)))));rw[show 0+((f:Nat):Int).toNat*2=f*2 by omega];have kP:f*2+2<=ar.length:=by rw[h.len];omega
  refine o9 hO (Γ.length+j) (aC o2) (by rfl) kP (by rfl) ?_;clear hO;intro H hO
  replace hO:=hO.cy
  rw[List.set_append_left _ _ qM]at hO;have aw:ik 2 n ((f+1)%n) aP (ar.take (f*2)++(dp (agg [int 0,bB])++ar.drop (f*2+2))):=h.aeL rfl;generalize ar.take (f*2)++(dp (agg [int 0,bB])++ar.drop (f*2+2))=cp at*;have sb:=aS (L:=T) ((List.getElem?_set_ne (by omega:j≠i):(L.set j (q,(⟨cp,true⟩:az)))[i]?=L[i]?).trans aq);refine aeN (j:=1) hO sb hf pd (by omega) (aY (c4 hO i sb rfl (by simp[c8]) ?_));clear hO;intro H hO;rw[List.set_append_left _ _ (by simp_all)]at hO;have B3:((L.set j (q,(⟨cp,true⟩:az))).set i (r,⟨c8 q n 2 ((f+1)%n) (aP.length+1),true⟩)++T)[i]?=some (r,⟨c8 q n 2 ((f+1)%n) (aP.length+1),true⟩):=aS (List.getElem?_set_self (by simp_all))
  replace hO:al H (Γ++((L.set j (q,(⟨cp,true⟩:az))).set i (r,⟨c8 q n 2 ((f+1)%n) (aP.length+1),true⟩)++T)):=hO
  refine aY (cI hO i B3 (v:=int ((aP.length+1:Nat):Int)) rfl (ai (nL (by omega) (by omega)) (aY (c4 hO i B3 rfl (by simp[c8]) ?_))));clear hO B3;intro H hO;rw[List.set_append_left _ _ (by simp_all),List.set_set]at hO
  replace hO:al H (Γ++((L.set j (q,(⟨cp,true⟩:az))).set i (r,⟨[aF q 0 n 5,int ((f+1)%n:Nat),int (((aP.length+1:Nat):Int)-1),.bool false],true⟩)++T)):=hO
  rw[show(((aP.length+1:Nat):Int)-1)=aP.length by omega]at hO;have hlen:((L.set j (q,(⟨cp,true⟩:az))).set i (r,⟨[aF q 0 n 5,int ((f+1)%n:Nat),int aP.length,.bool false],true⟩)).length=L.length:=by simp
  subst bk;refine jj hO (L.length+1) (by rw[<- hlen];exact aC rfl) B2 (by omega) (lo hO (L.length+0) (by rw[<- hlen];exact aC rfl) rfl B2 R5 ?_);clear hO;intro H hO;rw[<- hlen,Go.Ab.cy]at hO;exact jj hO (L.length+0) (by rw[<- hlen];exact aC rfl) B2 (by omega) (ph dX aP rfl H cp aw (BR hO))
end J
namespace J
open Go Go.Ab
variable[cu:b0]
variable{H:au}{Γ L:List (Nat×az)}{aa:VH}{v x:Value}{b:List Int}{i j q r n k f:Nat}{e:Int}{ar bx:List Value}{l:List UInt8}{aP:List (List Value)}{dX:List Value}
theorem LG(hO:al H (Γ++L))(aq:L[i]?=some (r,⟨c8 q n 1 f k,true⟩))(ag:k<=n)(aX:n<=16)(mq:aa (int ((n-k:Nat):Int)) H):wCall P 137 [ak r 0] H aa:=by apply apW;unfold Z0;refine aY (cI hO i aq (v:=.bool false) rfl (eX rfl (aY (cI hO i aq (v:=aF q 0 n 3) rfl (cH xO (aY (cI hO i aq (v:=int k) rfl (ai (nL (by omega) (by omega)) ?_))))))));rw[show((n-k:Nat):Int)=(n:Int)-k by omega]at mq;exact mq
theorem aeP(hO:al H (Γ++L))(aq:L[i]?=some (r,⟨c8 q n 1 f k,true⟩))(hf:f<n)(aX:n<=16)(bp:j<=16)(mq:aa (int (((f+j)%n:Nat):Int)) H):wCall P 183 [ak r 0,int j] H aa:=by apply aqp;unfold aaF;exact aY (cI hO i aq (v:=int f) rfl (ai (ED (by omega)) (aY (cI hO i aq (v:=aF q 0 n 3) rfl (cH xO (ai (Hf (by omega)) mq))))))
theorem R6{v:Value}(h:eP v=true):dp v=[v]:=by cases v<;>first|rfl|(cases h;done)
theorem EF{v:Value}(hO:al H (Γ++L))(aq:L[i]?=some (r,⟨c8 q n 1 f aP.length,true⟩))(bp:L[j]?=some (q,⟨ar,true⟩))(qc:i≠j)(h:ik 1 n f aP ar)(jZ:eP v=true)
  (eT:aP.length=n->aa (.bool false) H)
  (ph:aP.length<n->∀ab bx,ik 1 n f (aP++[[v]]) bx->al ab (Γ++((L.set j (q,⟨bx,true⟩)).set i (r,⟨c8 q n 1 f (aP.length+1),true⟩)))->aa (.bool true) ab):
  wCall P 194 [ak r 0,v] H aa:=by
 apply aqz;unfold aaP;have gi:=h.q4;have pd:=h.uG;have s6:=(List.getElem?_eq_some_iff.1 aq).1;have qM:=(List.getElem?_eq_some_iff.1 bp).1;refine LG hO aq gi pd (ai fz (bT (fun aR=>?_) (fun aR=>?_)))
 ·exact eT (by omega)
 have ea:aP.length<n:=by omega
 have aV:=EE (f:=f) h.e8 aP.length;refine aY (cI hO i aq (v:=aF q 0 n 3) rfl (aY (cI hO i aq (v:=int aP.length) rfl (aeP hO aq h.c6 pd (by omega) (⟨ha hO (Γ.length+i) (aC aq) hO (Γ.length+i) (aC aq) rfl,?_⟩)))));refine ai (ky (by omega) (by omega)) ?_;have IB:0+(((f+aP.length)%n:Nat):Int).toNat*1=((f+aP.length)%n)*1:=by omega
 rw[IB];have kP:(f+aP.length)%n*1+1<=ar.length:=by rw[h.len];omega
 refine o9 hO (Γ.length+j) (aC bp) (by grind[R6]) kP (by simp_all[R6]) ?_;clear hO;intro H hO
 replace hO:=hO.cy
 rw[R6 jZ]at hO;have aw:ik 1 n f (aP++[[v]]) (ar.take (((f+aP.length)%n)*1)++([v]++ar.drop (((f+aP.length)%n)*1+1))):=h.aeK ea rfl;generalize ar.take (((f+aP.length)%n)*1)++([v]++ar.drop (((f+aP.length)%n)*1+1))=cp at*;have sb:(L.set j (q,(⟨cp,true⟩:az)))[i]?=_:=(List.getElem?_set_ne (by omega:j≠i)).trans aq;refine aY (cI hO i sb (v:=int aP.length) rfl (ai (ED (b:=1) (by omega)) (aY (c4 hO i sb rfl (by simp[c8]) ?_))));clear hO;intro H hO;exact ph ea H cp aw hO
noncomputable def av0:List (List Value)->Value
 | []=>.nilIface
 | dX::_=>b3 dX 0
theorem av1(hO:al H (Γ++L))(aq:L[i]?=some (r,⟨c8 q n 1 f aP.length,true⟩))(bp:L[j]?=some (q,⟨ar,true⟩))(h:ik 1 n f aP ar)
  (ag:aa (.tuple [av0 aP,.bool (aeO aP)].toArray) H):wCall P 182 [ak r 0] H aa:=by
 apply aqo;unfold aaE;have pd:=h.uG;refine aY (cI hO i aq (v:=int aP.length) rfl (ai fz ?_));cases aP with
 | nil=>exact nK rfl ag
 | cons dX aP=>
  refine tb (by grind) ?_;have af:=h.B1 dX (by simp);have hf:=h.c6;obtain⟨a,rfl⟩:=LD af;refine aY (cI hO i aq (v:=aF q 0 n 3) rfl (aY (cI hO i aq (v:=int f) rfl (ai (ky (by omega) (by omega)) ?_))));have hh:=h.head;have ax:ar[0+((f:Nat):Int).toNat*1]?=some a:=by
   have e:=congrArg (fun l=>l[0]?) hh
   grind
  exact cI hO j bp ax ag
theorem aeQ(hO:al H (Γ++L))(aq:L[i]?=some (r,⟨c8 q n 1 f aP.length,true⟩))(bp:L[j]?=some (q,⟨ar,true⟩))(qc:i≠j)(h:ik 1 n f aP ar)
  (eT:aP=[]->aa (.tuple [.nilIface,.bool false].toArray) H)
  (ph:∀a bu,aP=[a]::bu->∀ab bx,ik 1 n ((f+1)%n) bu bx->al ab (Γ++((L.set j (q,⟨bx,true⟩)).set i (r,⟨c8 q n 1 ((f+1)%n) bu.length,true⟩)))->aa (.tuple [a,.bool true].toArray) ab):
  wCall P 126 [ak r 0] H aa:=by
 apply apL;unfold ZQ;have pd:=h.uG;have hf:=h.c6;have s6:=(List.getElem?_eq_some_iff.1 aq).1;have qM:=(List.getElem?_eq_some_iff.1 bp).1;refine av1 hO aq bp h (ai rfl (ai rfl ?_));cases aP with
 | nil=>exact eX rfl (eT rfl)
 | cons dX aP=>
  have kF:=h.q4;rw[List.length_cons]at kF;obtain⟨a,rfl⟩:=LD (h.B1 dX (by simp));refine fU rfl (aY (cI hO i aq (v:=aF q 0 n 3) rfl (aY (cI hO i aq (v:=int f) rfl (ai (ky (by omega) (by omega)) ?_)))));rw[show 0+((f:Nat):Int).toNat*1=f*1 by omega];have kP:f*1+1<=ar.length:=by rw[h.len];omega
  refine o9 hO (Γ.length+j) (aC bp) (by rfl) kP (by rfl) ?_;clear hO;intro H hO
  replace hO:=hO.cy
  have aw:ik 1 n ((f+1)%n) aP (ar.take (f*1)++(dp .nilIface++ar.drop (f*1+1))):=h.aeL rfl;generalize ar.take (f*1)++(dp .nilIface++ar.drop (f*1+1))=cp at*;have sb:(L.set j (q,(⟨cp,true⟩:az)))[i]?=_:=(List.getElem?_set_ne (by omega:j≠i)).trans aq;refine aeP (j:=1) hO sb hf pd (by omega) (aY (c4 hO i sb rfl (by simp[c8]) ?_));clear hO;intro H hO;have B3:((L.set j (q,(⟨cp,true⟩:az))).set i (r,⟨c8 q n 1 ((f+1)%n) (aP.length+1),true⟩))[i]?=some (r,⟨c8 q n 1 ((f+1)%n) (aP.length+1),true⟩):=List.getElem?_set_self (by simp_all)
  replace hO:al H (Γ++((L.set j (q,(⟨cp,true⟩:az))).set i (r,⟨c8 q n 1 ((f+1)%n) (aP.length+1),true⟩))):=hO
  refine aY (cI hO i B3 (v:=int ((aP.length+1:Nat):Int)) rfl (ai (nL (by omega) (by omega)) (aY (c4 hO i B3 rfl (by simp[c8]) ?_))));clear hO B3;intro H hO;rw[List.set_set]at hO
  replace hO:al H (Γ++((L.set j (q,(⟨cp,true⟩:az))).set i (r,⟨[aF q 0 n 3,int ((f+1)%n:Nat),int (((aP.length+1:Nat):Int)-1),.bool false],true⟩))):=hO
  rw[show(((aP.length+1:Nat):Int)-1)=aP.length by omega]at hO;exact ph a aP rfl H cp aw hO
def e6(x:Int):Nat:=(max 1 (min x 16)).toNat
theorem aeR(x:Int):1<=e6 x/\e6 x<=16/\((e6 x:Nat):Int)=max 1 (min x 16):=by grind[e6]
theorem aeS{z:List Value}(n:Nat)(ad:1<=n)(af:n<=16):ik z.length n 0 [] (fS n z):=by exact⟨ad,af,by omega,by simp,IA n z,by simp,fun j h=>by simp at h⟩
theorem av2{x:Int}(hO:al H (Γ++L))(ag:∀ab q r ar,ik 2 (e6 x) 0 [] ar->al ab (Γ++(L++[(q,⟨ar,true⟩),(r,⟨c8 q (e6 x) 2 0 0,true⟩)]))->aa (ak r 0) ab):wCall P 77 [int x] H aa:=by apply api;unfold Zm;obtain⟨bQ,cE,ff⟩:=aeR x;refine cH vy (cH zd ?_);rw[<- ff];rw[show(qF P 134).f (int (e6 x:Nat)) (int (e6 x:Nat)) H=tO 2 32 [int 0,bB] (int (e6 x:Nat)) (int (e6 x:Nat)) H from by rfl];refine F9 hO (by omega) (by omega) ?_;clear hO;intro q H hO;refine ai (show _=some (agg [aF q 0 (e6 x) 5,int 0,int 0,.bool false])from by rfl) (dT hO ?_);clear hO;intro r H hO;refine ag H q r _ (aeS (z:=[int 0,bB]) _ bQ cE) ?_;rw[List.append_assoc,List.append_assoc]at hO;exact hO
theorem aeT{x:Int}(hO:al H (Γ++L))(ag:∀ab q r ar,ik 1 (e6 x) 0 [] ar->al ab (Γ++(L++[(q,⟨ar,true⟩),(r,⟨c8 q (e6 x) 1 0 0,true⟩)]))->aa (ak r 0) ab):wCall P 78 [int x] H aa:=by apply apj;unfold Zn;obtain⟨bQ,cE,ff⟩:=aeR x;refine cH vy (cH zd ?_);rw[<- ff];rw[show(qF P 269).f (int (e6 x:Nat)) (int (e6 x:Nat)) H=tO 1 16 [.nilIface] (int (e6 x:Nat)) (int (e6 x:Nat)) H from by rfl];refine F9 hO (by omega) (by omega) ?_;clear hO;intro q H hO;refine ai (show _=some (agg [aF q 0 (e6 x) 3,int 0,int 0,.bool false])from by rfl) (dT hO ?_);clear hO;intro r H hO;refine ag H q r _ (aeS (z:=[.nilIface]) _ bQ cE) ?_;rw[List.append_assoc,List.append_assoc]at hO;exact hO
end J
namespace J
open Go Go.Ab
variable[cu:b0]
variable{H:au}{Γ:List (Nat×az)}{aa:VH}{v bb:Value}{b:List Int}{f:Nat}{e i:Int}{m:df}{t:pT}
def gw(m:df)(i:Int):Int×Int:=if¬eB m\/i<0\/i≥m.a1.length then(0,0)else(i*m.aE,min m.aE (m.c0-i*m.aE))
theorem LH(U:eB m)(aR:0<=i)(ad:i<m.a1.length):0<=i*m.aE/\i*m.aE<=65536/\(i=(m.a1.length:Int)-1->m.c0-i*m.aE<=m.aE/\0<m.c0-i*m.aE)/\(i≠(m.a1.length:Int)-1->m.aE<=m.c0-i*m.aE):=by
 obtain⟨_,_,_,c4,cw,eJ,hx,_,aA,aX⟩:=U;unfold l9 at aA;rw[if_neg (by omega)]at aA;have aJ:=Int.mul_ediv_add_emod (m.c0-1) m.aE;have vg:=Int.emod_nonneg (m.c0-1) (show m.aE≠0 by omega);have p7:=Int.emod_lt_of_pos (m.c0-1) (show 0<m.aE by omega);have wW:0<=(m.c0-1)/m.aE:=Int.ediv_nonneg (by omega) (by omega);generalize (m.c0-1)/m.aE=d at*;generalize (m.c0-1)%m.aE=e at*;have Hg:∀a c:Int,0<=a->a<=c->a*m.aE<=c*m.aE:=fun a c _ h=>Int.mul_le_mul_of_nonneg_right h (by omega)
 have bn:m.aE*d=d*m.aE:=Int.mul_comm _ _;have fj:=Hg 0 i (by omega) aR;have fl:=Hg i d aR (by omega);refine⟨by omega,by omega,fun h=>?_,fun h=>?_⟩
 ·grind
 ·have iJ:=Hg (i+1) d (by omega) (by omega)
  grind
theorem R7{t:TypeId}{c:Bool}{a b:Int}(ad:-9223372036854775808<=a*b)(af:a*b<=9223372036854775807):(ay P .mul t c).f (int a) (int b)=some (int (a*b)):=by rw[qT _ _ rfl];show some (Value.int .i64 (iY .i64 (a*b)))=_;rw[y9 ad af]
theorem R8(ok:m.b1)(aA:fR Γ bb m.a1)(hO:al H Γ)(ag:∀ab,al ab Γ->aa (.tuple [int (gw m i).1,int (gw m i).2].toArray) ab):wCall P 188 [agg (b4 m bb),int i] H aa:=by
 apply aqt;unfold aaJ;have uC:=uB (bb:=bb) ok.dR;rw[BU];refine j8 hO.z ?_;clear hO;intro dK H hO
 replace hO:al H (Γ++[(dK,⟨b4 m bb,true⟩)]):=hO
 refine gb (fun aG ab=>aG=[int i,ak dK 0,.bool (decide (¬eB m\/i<0\/i≥m.a1.length))]/\al ab (Γ++[(dK,⟨b4 m bb,true⟩)])) ?_ ?_
 ·refine jj hO 0 rfl (e1 ok.dR) (by omega) (Ex ok aA.bo hO ?_);clear hO;intro H hO;refine ai jt ?_;by_cases U:eB m
  ·rw[decide_eq_true U];refine eX rfl (ai gj (ai qi (bT (fun h=>?_) (fun h=>?_))))
   ·exact ai (ju h) (⟨by simp[h],hO⟩)
   ·exact ai ed (cI hO 0 rfl uC (cH aA.cG (ai uk (ai (kV h) (⟨by grind,hO⟩)))))
  ·rw[decide_eq_false U];exact fU rfl (ai mI (ai mI (⟨by simp[U],hO⟩)))
 clear hO;rintro aG H ⟨rfl,hO⟩
 try simp only[cR,cS]
 unfold gw at ag;refine bT (fun h=>?_) (fun h=>?_)
 ·rw[if_pos h]at ag;exact ag H hO.left
 ·rw[if_neg h]at ag;have U:eB m:=Classical.byContradiction fun ad=>h (.inl ad)
  obtain⟨c4,cw,ru,LI⟩:=LH (i:=i) U (by omega) (by omega);have gI:=U;obtain⟨_,_,_,nf,oB,eJ,hx,_⟩:=gI;exact ai ed (cI hO 0 rfl (v:=int m.aE) rfl (ai (R7 (by omega) (by omega)) (ai ed (cI hO 0 rfl (v:=int m.aE) rfl (ai ed (cI hO 0 rfl (v:=int m.c0) rfl (ai (nL (by omega) (by omega)) (cH vy (ag H hO.left)))))))))
end J
namespace J
open Go Go.Ab
variable[cu:b0]
variable{H:au}{Γ L:List (Nat×az)}{aa:VH}{w x bb:Value}{j p q o n f bm st cT:Nat}{e:Int}{ar bx db:List Value}{m:df}{a1:List (List Int)}
theorem av3:(ay P .eql 53 true).f bB (.slice none 0 0)=some (.bool true):=by rfl
theorem av4(p o n c:Nat):(ay P .eql 53 true).f (aF p o n c) (.slice none 0 0)=some (.bool false):=by rfl
theorem av5(H:au):(eY P 53 0).f [] H=some (aF H.next 0 0 65,H.push []):=by rfl
theorem aeU(h:∀x∈a1,x.length=32):(hK a1).length=a1.length*32:=by
 induction a1 with
 | nil=>rfl
 | cons a a1 bd=>grind
theorem av6:(hK a1).all eP=true:=by simp_all[eP]
theorem av7(aA:fR Γ bb a1)(av8:∀x∈a1,x.length=32)(aX:a1.length<=10000)(hO:al H Γ)
  (ag:∀ab aQ,al ab (Γ++b2 aQ (hK a1))->fR (b2 aQ (hK a1)) aQ a1->aa aQ ab):wCall P 148 [bb] H aa:=by
 apply aqb;unfold aap;have aD:=aeU av8;rcases aA with⟨rfl,rfl⟩|⟨p,c,j,w,rfl,bp⟩
 ·exact ai av3 (fU rfl (ag H bB hO.z fR.nil))
 ·refine ai (av4 _ _ _ _) (eX rfl (ih hO (av5 _) ?_));clear hO;intro q H hO;by_cases aR:a1=[]
  ·subst aR;exact cH (show _=some (aF q 0 0 65,H)from rfl) (ag H (aF q 0 0 65) hO (.inr ⟨q,65,0,true,rfl,rfl⟩))
  ·have Bh:0<a1.length:=List.length_pos_iff.2 aR;have hg:H.get p=some ⟨hK a1,w⟩:=hO.at j (aS bp) (.inr fun e=>by grind);have he:sU H 32 a1.length (aF p 0 a1.length c)=some (hK a1):=by simp_all[Ga,List.take_of_length_le]
   have dd:al H (Γ++b2 (aF q 0 0 65) []):=hO;refine WO (n:=0) (m:=a1.length) (ar:=[]) (cN:=hK a1) dd (.inr ⟨q,.inr rfl,rfl⟩) (by omega) rfl he Bh (by omega) (by omega) av6 aD ?_;clear hO dd he hg;intro ca H hO _;rw[Nat.zero_add];exact ag H (aF ca 0 a1.length 64) hO (.inr ⟨ca,64,0,true,rfl,rfl⟩)
def jI(m:df)(bb:Value)(bm cT:Nat):List Value:=b4 m bb++[ak bm 0,int cT]
theorem av9(aJ:m.cq.length=32)(a:Option Addr)(n c:Nat):(di P 357).f [(0,agg (b4 m (.slice a n c))),(1,ak bm 0)]=some (agg (jI m (.slice a n c) bm 0)):=by
 obtain⟨cz,dN,c0,aE,cq,a1⟩:=m;have aJ:cq.length=32:=aJ
 match cq,aJ with
 | [a0,dm,da,a3,a4,a5,lF,np,pI,a9,Rz,RA,RB,RC,RD,RE,Bv,RF,RG,RH,a20,a21,RI,RJ,RK,RL,RM,RN,RO,RP,RQ,RR],_=>rfl
theorem awa(ok:m.b1)(aA:fR Γ bb m.a1)(U:eB m)(hO:al H Γ)
  (ag:∀ab mo bm L st,ln bm [] L->fR (b2 mo (hK m.a1)) mo m.a1->al ab ((Γ++b2 mo (hK m.a1))++(L++[(st,⟨jI m mo bm 0,true⟩)]))->aa (.tuple [ak st 0,int 0].toArray) ab):wCall P 198 [agg (b4 m bb)] H aa:=by
 apply aqD;unfold aaT;have uC:=uB (bb:=bb) ok.dR;have Fv:=e1 (bb:=bb) ok.dR;rw[BU];refine j8 hO.z ?_;clear hO;intro dK H hO
 replace hO:al H (Γ++[(dK,⟨b4 m bb,true⟩)]):=hO
 refine jj hO 0 rfl Fv (by omega) (Ex ok aA.bo hO ?_);clear hO;intro H hO;rw[decide_eq_true U];refine ai jt (eX rfl (ai ed (cI hO 0 rfl uC (av7 aA.bo ok.dS ok.n hO ?_))));clear hO;intro H ev hO ad;refine ai ed ?_;refine fQ hO (Γ.length+0) (aS (aC rfl)) ad.gd (by omega) (bx:=b4 m ev) (by simp_all[b4]) ?_;clear hO;intro H hO;rw[List.set_append_left _ _ (by simp),Go.Ab.cy]at hO
 replace hO:al H ((Γ++[(dK,⟨b4 m ev,true⟩)])++b2 ev (hK m.a1)):=hO
 refine hi hO (Γ.length+0) (aS (aC rfl)) (e1 ok.dR) (by omega) ?_;have dJ:=hO;refine Lb hO ?_;clear hO;intro cD bm hO;refine⟨ha dJ (Γ.length+0) (aS (aC rfl)) hO (Γ.length+0) (aS (aS (aC rfl))) (zL ad.sF),?_⟩;obtain⟨dm,e8,db,rfl⟩:=ad.lC;refine ai (av9 ok.dR _ _ _) ?_;rw[uH];refine dT hO ?_;clear hO dJ;intro st H hO;refine ag H _ bm (nv bm (mM []) bB ([]:List Int).length []) st ⟨_,_,rfl,.inl ⟨rfl,rfl,rfl⟩⟩ ad ?_;exact hO.sub (by simp only[List.append_assoc];exact List.Sublist.append (List.Sublist.refl Γ) (List.sublist_append_right [(dK,_)] _))
end J
namespace J
open Go Go.Ab
variable[cu:b0]
variable{H:au}{Γ L:List (Nat×az)}{aa:VH}{w bb:Value}{aj bg b:List Int}{i p q n k bm st cT:Nat}{e:Int}{m:df}{a1:List (List Int)}
theorem LJ(aJ:m.cq.length=32):(jI m bb bm cT)[0+38]?=some (int cT):=by simp_all[jI,e1]
theorem aeV(aJ:m.cq.length=32):(jI m bb bm cT)[0+37]?=some (ak bm 0):=by simp_all[jI,e1]
theorem aeW(aJ:m.cq.length=32):(jI m bb bm cT)[0+0+36]?=some bb:=by grind[jI,uB]
theorem awb(aJ:m.cq.length=32):((jI m bb bm cT).drop (0+0)).take 37=b4 m bb:=by simp_all[jI,e1]
theorem awc(aJ:m.cq.length=32):((jI m bb bm cT).drop (0+0+4)).take 32=bj m.cq:=by simp_all[jI,List.drop_append_of_le_length,e1,List.take_append_of_le_length,adT]
theorem awd(aJ:m.cq.length=32):(jI m bb bm cT).set (0+38) (int ((cT+1:Nat):Int))=jI m bb bm (cT+1):=by simp_all[jI,e1]
theorem awe(aJ:m.cq.length=32):(jI m bb bm cT).length=39:=by simp_all[jI,e1]
theorem aeX(aJ:m.cq.length=32)(h:fH bb=true):(jI m bb bm cT).all fH=true:=by unfold jI;rw[List.all_append,zL h];rfl
theorem awf:(hK a1).all fH=true:=by
 induction a1 with
 | nil=>rfl
 | cons a a1 bd=>
  show(bj a++hK a1).all fH=true
  grind[zB]
theorem LK{ab:au}{cU:az}{eZ:Nat}(hO:al H Γ)(aq:Γ[i]?=some (p,cU))(n:Nat):mH (cd [ak p eZ]) H.next n:=by
 have h:=hO.lt (p,cU) (List.mem_of_getElem? aq);show jT _ [p]=true
 simp_all[ki]
theorem R9(aJ:m.cq.length=32)(aA:fR Γ bb m.a1)(hO:al H Γ)(aq:Γ[i]?=some (st,⟨jI m bb bm cT,true⟩))(ag:aa (.bool (decide (cT=m.a1.length))) H):wCall P 191 [ak st 0] H aa:=by apply aqw;unfold aaM;refine aY (aZ hO i aq (LJ aJ) (aY (ai ed (aZ hO i aq (aeW aJ) (cH aA.cG (ai fz ?_))))));rw[decide_eq_decide.2 (show((cT:Int)=(m.a1.length:Int))↔cT=m.a1.length by omega)];exact ag
theorem awg(aJ:m.cq.length=32)(hO:al H Γ)(aq:Γ[i]?=some (st,⟨jI m bb bm cT,true⟩))(ag:aa (int cT) H):wCall P 192 [ak st 0] H aa:=by apply aqx;unfold aaN;exact aY (aZ hO i aq (LJ aJ) ag)
theorem awh(ok:m.b1)(aA:fR Γ bb m.a1)(hO:al H (Γ++L))(aq:Γ[i]?=some (st,⟨jI m bb bm cT,true⟩))(tx:ln bm aj L)(ao:ct aj)(aD:aj.length<=1000000)
  (ag:∀ab,al ab (Γ++L)->aa (.bool (decide (cT=m.a1.length/\gB aj=m.cq))) ab):wCall P 193 [ak st 0] H aa:=by
 apply aqy;unfold aaO;refine R9 ok.dR aA.bo hO (aS aq) (bT (fun h=>?_) (fun h=>?_))
 ·refine aY (aZ hO i (aS aq) (aeV ok.dR) ?_);have dJ:=hO;refine Ld hO tx ao (by omega) ?_;clear hO;intro cD hO;refine aY (ai ed (jM hO i (aS aq) (awc ok.dR) (by rw[od];exact ok.dR) (by omega) (⟨ha dJ i (aS aq) hO i (aS aq) (aeX ok.dR aA.sF),?_⟩)));refine ai (auZ _ pO ok.dR) (ai (ju h) ?_);have:=ag cD hO;rw[decide_eq_decide.2 (show(cT=m.a1.length/\gB aj=m.cq)↔gB aj=m.cq from⟨fun h=>h.2,fun af=>⟨h,af⟩⟩)]at this;exact this
 ·refine ai (kV h) ?_;have:=ag H hO;rw[decide_eq_false (fun af=>h af.1)]at this;exact this
theorem awi(ok:m.b1)(U:eB m)(aA:fR Γ bb m.a1)(hO:al H (Γ++L))(aq:Γ[i]?=some (st,⟨jI m bb bm cT,true⟩))(tx:ln bm aj L)(ao:ct aj)(aD:aj.length<=1000000)
  (aM:cl Γ w bg) (ba:ct bg) (lU:bg.length<=1000000) (EG:cT<m.a1.length)
  (eT:¬((bg.length:Int)=(gw m cT).2/\gB bg=m.a1[cT])->∀ab,al ab (Γ++L)->aa (int 152) ab)
  (ph:((bg.length:Int)=(gw m cT).2/\gB bg=m.a1[cT])->∀ab cv,ln bm (aj++bg) cv->al ab (Γ.set i (st,⟨jI m bb bm (cT+1),true⟩)++cv)->aa (int 0) ab):
  wCall P 199 [ak st 0,int cT,w] H aa:=by
 apply aqE;unfold aaU;have s6:=(List.getElem?_eq_some_iff.1 aq).1;refine gb (fun aG ab=>aG=[ak st 0,int cT,w]/\H=ab) ?_ ?_
 ·exact R9 ok.dR aA.bo hO (aS aq) (tb (by omega) (aY (aZ hO i (aS aq) (LJ ok.dR) (ai jh (ai (kV (by omega)) (tb (fun h=>h rfl) (⟨rfl,rfl⟩)))))))
 rintro aG ab ⟨rfl,rfl⟩
 try simp only[cR,cS]
 refine gb (fun aG ab=>aG=[ak st 0,w]/\al ab (Γ++L)/\((bg.length:Int)=(gw m cT).2/\gB bg=m.a1[cT])) ?_ ?_
 ·refine aY (jM hO i (aS aq) (awb ok.dR) (e1 ok.dR) (by omega) (R8 ok aA.bo hO ?_));clear hO;intro H hO;refine ai rfl (ai rfl (cH aM.cG (ai jh (bT (fun h=>?_) (fun h=>?_)))))
  ·exact ai (ju h) (fU rfl (eT (fun af=>h af.1) H hO))
  ·obtain⟨a,k7,cC,rfl⟩:=aM.lC;refine ih hO (adj _ _ _ _) ?_;have pL:=hO;clear hO;intro q bw hO;have dJ:=hO;refine Q9 hO (aC (Γ:=Γ++L) (k:=0) rfl) aM.bo.bo ba (by omega) ?_;clear hO;intro cD hO;refine aY (ai ed (aZ hO i (aS (aS aq)) (aeW ok.dR) (⟨ha dJ i (aS (aS aq)) hO i (aS (aS aq)) (aeX ok.dR aA.sF),LK (ab:=H) pL (aS aq) _,?_⟩)));obtain⟨cM,cc,Ha,j0,rfl,LL⟩:=aA.bh (by omega);refine ai (ky (by omega) (by omega)) (jM hO Ha (aS (aS LL)) (adU ok.dS (y:=cT) EG) (by rw[od];exact ok.dS _ (List.getElem_mem EG)) (by omega) ?_);have dj:(⟨hK m.a1,j0⟩:az).wr=true\/(⟨hK m.a1,j0⟩:az).cells≠[]:=.inr fun e=>by
    have e:hK m.a1=[]:=e;have:=aeU ok.dS
    grind
   refine⟨ha dJ Ha (aS (aS LL)) hO Ha (aS (aS LL)) awf dj,LK (ab:=H) pL (aS LL) _,?_⟩;refine ai (adZ _ pO (ok.dS _ (List.getElem_mem EG))) (ai (kV h) (bT (fun af=>?_) (fun af=>?_)))
   ·exact eT (fun ax=>af ax.2) cD hO.left
   ·exact⟨rfl,hO.left,by omega,Classical.not_not.1 af⟩
 clear hO;rintro aG H ⟨rfl,hO,Hh⟩
 try simp only[cR,cS]
 refine aY (aZ hO i (aS aq) (aeV ok.dR) (yg hO tx aM ao ba (by omega) (by omega) ?_));clear hO;intro H cv hO Sa;refine aY (aZ hO i (aS aq) (LJ ok.dR) ?_);have aX:=ok.n;refine ai (ED (b:=1) (by omega)) (aY (fQ hO i (aS aq) rfl (by rw[awe ok.dR];omega) (awd ok.dR) ?_));clear hO;intro H hO;rw[List.set_append_left _ _ s6]at hO;exact ph Hh H cv Sa hO
end J
namespace J
open Go Go.Ab
variable[cu:b0]
end J
namespace J
open Go Go.Ab
variable[cu:b0]
variable{H:au}{S T eO:List (Nat×az)}{aa:VH}{v bb a6 b9 cF:Value}{bs:List Int}{p q r n k f bm st cT c:Nat}{e bu:Int}{ar aE:List Value}{m aW:df}{t:pT}{aP:List (List Value)}{dX:List Value}{a1:List (List Int)}{cZ:Bool}
inductive jl where
 | il (a:Int)
 | nk (n:Int) (m:df)
 | body (a:Int) (bs:List Int)
 | eC
def uI(S:List (Nat×az)):jl->List Value->Prop
 | .il a,dX=>dX=[.iface 313 (agg [int a])]
 | .nk n m,dX=>∃bb,dX=[.iface 316 (agg (int n::b4 m bb))]/\fR S bb m.a1/\m.b1
 | .body a bs,dX=>∃v,dX=[.iface 327 (agg [int a,v])]/\cl S v bs/\ct bs
 | .eC,dX=>dX=[.iface 320 (agg [])]
def B4(S:List (Nat×az))(p:Int×List Int)(dX:List Value):Prop:=∃v,dX=[int p.1,v]/\cl S v p.2/\ct p.2/\(p.2≠[]->pR S v)
structure fW where
 q:Nat
 r:Nat
 n:Nat
 f:Nat
 ar:List Value
 aP:List (List Value)
def fe(a6:Value)(t:pT)(bQ cE ff:Nat)(aW:df)(b9 cF:Value)(cZ:Bool)(bu:Int):List Value:=
 a6::bZ t.cz::bS .u64 t.c6::int t.xI::ak bQ 0::ak cE 0::ak ff 0::(b4 aW b9++[cF,.bool cZ,int bu])
def hj(A B C:fW)(c:Nat)(aE:List Value)(T:List (Nat×az)):List (Nat×az):=
 (A.q,⟨A.ar,true⟩)::(A.r,⟨c8 A.q A.n 2 A.f A.aP.length,true⟩)::(B.q,⟨B.ar,true⟩)::(B.r,⟨c8 B.q B.n 1 B.f B.aP.length,true⟩)::(C.q,⟨C.ar,true⟩)::(C.r,⟨c8 C.q C.n 1 C.f C.aP.length,true⟩)::(c,⟨aE,true⟩)::T
variable{A B C:fW}{bQ cE ff:Nat}
theorem Sb(aJ:aW.cq.length=32)(k:Nat):(fe a6 t bQ cE ff aW b9 cF cZ bu)[0+(44+k)]?=[cF,Value.bool cZ,int bu][k]?:=by
 unfold fe;rw[show 0+(44+k)=(37+k)+7 by omega];show(b4 aW b9++[cF,Value.bool cZ,int bu])[37+k]?=_
 simp_all[List.getElem?_append_right,e1]
theorem EH(aJ:aW.cq.length=32):(fe a6 t bQ cE ff aW b9 cF cZ bu)[0+44]?=some cF:=Sb aJ 0
theorem awj(aJ:aW.cq.length=32):(fe a6 t bQ cE ff aW b9 cF cZ bu)[0+45]?=some (.bool cZ):=Sb aJ 1
theorem aeY(aJ:aW.cq.length=32):(fe a6 t bQ cE ff aW b9 cF cZ bu)[0+46]?=some (int bu):=Sb aJ 2
theorem Hi(aJ:aW.cq.length=32):(fe a6 t bQ cE ff aW b9 cF cZ bu).length=47:=by simp_all[fe,e1]
theorem Sc(aJ:aW.cq.length=32)(k:Nat)(v:Value):(fe a6 t bQ cE ff aW b9 cF cZ bu).set (0+(44+k)) v=a6::bZ t.cz::bS .u64 t.c6::int t.xI::ak bQ 0::ak cE 0::ak ff 0::(b4 aW b9++[cF,Value.bool cZ,int bu].set k v):=by
 unfold fe;rw[show 0+(44+k)=(37+k)+7 by omega];show a6::bZ t.cz::bS .u64 t.c6::int t.xI::ak bQ 0::ak cE 0::ak ff 0::((b4 aW b9++[cF,Value.bool cZ,int bu]).set (37+k) v)=_
 simp_all[e1]
theorem awk(aJ:aW.cq.length=32)(v:Value):(fe a6 t bQ cE ff aW b9 cF cZ bu).set (0+44) v=fe a6 t bQ cE ff aW b9 v cZ bu:=Sc aJ 0 v
theorem awl(aJ:aW.cq.length=32)(d:Bool):(fe a6 t bQ cE ff aW b9 cF cZ bu).set (0+45) (.bool d)=fe a6 t bQ cE ff aW b9 cF d bu:=Sc aJ 1 _
theorem aeZ(aJ:aW.cq.length=32)(e:Int):(fe a6 t bQ cE ff aW b9 cF cZ bu).set (0+46) (int e)=fe a6 t bQ cE ff aW b9 cF cZ e:=Sc aJ 2 _
def vP(st:Nat)(m:df)(bb:Value)(bm cT:Nat)(eO:List (Nat×az)):List (Nat×az):=(st,⟨jI m bb bm cT,true⟩)::eO
theorem awm(c:Bool)(p:Nat):(ay P .eql 251 c).f (ak p 0) (.pointer none)=some (.bool false):=by rfl
theorem awn:(ay P .eql 251 true).f (.pointer none) (.pointer none)=some (.bool true):=by rfl
theorem awo(aJ:aW.cq.length=32)(hO:al H (S++hj A B C c (fe a6 t bQ cE ff aW b9 (.pointer none) cZ bu) T))(ag:aa (int (-1)) H):wCall P 134 [ak c 0] H aa:=by apply ZX;unfold Qs;exact aY (cI hO 6 rfl (EH aJ) (ai awn (fU rfl ag)))
theorem awp(aJ:aW.cq.length=32)(aV:m.cq.length=32)(aA:fR S bb m.a1)(hO:al H (S++hj A B C c (fe a6 t bQ cE ff aW b9 (ak st 0) cZ bu) (vP st m bb bm cT eO)))(ag:aa (int (if cT=m.a1.length then-2 else(cT:Int))) H):wCall P 134 [ak c 0] H aa:=by
 apply ZX;unfold Qs;have aq:(S++hj A B C c (fe a6 t bQ cE ff aW b9 (ak st 0) cZ bu) (vP st m bb bm cT eO))[S.length+7]?=some (st,⟨jI m bb bm cT,true⟩):=aC rfl;refine aY (cI hO 6 rfl (EH aJ) (ai (awm _ _) (eX rfl (aY (cI hO 6 rfl (EH aJ) (R9 aV aA.bo hO aq (bT (fun h=>?_) (fun h=>?_))))))))
 ·rw[if_pos h]at ag;exact ag
 ·rw[if_neg h]at ag;exact aY (cI hO 6 rfl (EH aJ) (awg aV hO aq ag))
end J
namespace J
open Go Go.Ab
variable[cu:b0]
variable{H:au}{S T eO:List (Nat×az)}{aa:VH}{v w bb a6 b9:Value}{aj bg:List Int}{i j q r n f bm st cT c:Nat}{e bu:Int}{ar bx aE:List Value}{m aW:df}{t:pT}{aP:List (List Value)}{dX:List Value}{a1:List (List Int)}{cZ:Bool}{A B C:fW}{bQ cE:Nat}
def fW.lp(R:fW)(bx:List Value)(dX:List Value):fW:=⟨R.q,R.r,R.n,R.f,bx,R.aP++[dX]⟩
theorem Sd(R:fW):(R.lp bx dX).aP.length=R.aP.length+1:=by simp[fW.lp]
theorem Se(h:al H (S++((hj A B C c aE T).set 4 (C.q,⟨bx,true⟩)).set 5 (C.r,⟨c8 C.q C.n 1 C.f (C.aP.length+1),true⟩))):al H (S++hj A B (C.lp bx dX) c aE T):=by unfold hj;rw[Sd];exact h
theorem Sf(h:al H (S++((hj A B C c aE T).set 2 (B.q,⟨bx,true⟩)).set 3 (B.r,⟨c8 B.q B.n 1 B.f (B.aP.length+1),true⟩))):al H (S++hj A (B.lp bx dX) C c aE T):=by unfold hj;rw[Sd];exact h
theorem Hj{dw:List (Nat×az)}(h:al H (S++hj A B C c aE T))(aw:dw.Sublist T):al H (S++hj A B C c aE dw):=
 h.sub (List.Sublist.append (List.Sublist.refl _) ((((((((aw.cons_cons _).cons_cons _).cons_cons _).cons_cons _).cons_cons _).cons_cons _).cons_cons _)))
theorem Hk{dw:List (Nat×az)}:S++hj A B C c aE (T++dw)=(S++hj A B C c aE T)++dw:=by rw[List.append_assoc];rfl
theorem awq:(di P 320).f []=some (agg []):=by rfl
theorem ae0(a:Int):(di P 313).f [(0,int a)]=some (agg [int a]):=by rfl
theorem awr(e:Int)(a:Option Addr)(n c:Nat):(di P 327).f [(0,int e),(1,.slice a n c)]=some (agg [int e,.slice a n c]):=by rfl
theorem aws(aJ:aW.cq.length=32)(ok:m.b1)(aA:fR S bb m.a1)(hO:al H (S++hj A B C c (fe a6 t bQ cE C.r aW b9 (ak st 0) cZ bu) (vP st m bb bm cT eO)))(jO:ik 1 C.n C.f C.aP C.ar)(tx:ln bm aj eO)(ao:ct aj)(aD:aj.length<=1000000)
  (awt:C.aP.length=C.n->aa (.bool false) H)
  (k2:C.aP.length<C.n->¬(cT=m.a1.length/\gB aj=m.cq)->∀ab,al ab (S++hj A B C c (fe a6 t bQ cE C.r aW b9 (ak st 0) cZ 153) (vP st m bb bm cT eO))->aa (.bool true) ab)
  (fC:C.aP.length<C.n->(cT=m.a1.length/\gB aj=m.cq)->∀ab bx,ik 1 C.n C.f (C.aP++[[.iface 320 (agg [])]]) bx->al ab (S++hj A B (C.lp bx [.iface 320 (agg [])]) c (fe a6 t bQ cE C.r aW b9 (ak st 0) true bu) (vP st m bb bm cT eO))->aa (.bool true) ab):
  wCall P 135 [ak c 0] H aa:=by
 apply apU;unfold ZY;have kF:=jO.q4;refine aY (cI hO 6 rfl (v:=ak C.r 0) rfl (LG (i:=5) hO rfl jO.q4 jO.uG (ai fz (bT (fun h=>?_) (fun h=>?_)))))
 ·exact awt (by omega)
 have ea:C.aP.length<C.n:=by omega
 refine aY (cI hO 6 rfl (EH aJ) ?_);have dd:al H ((S++hj A B C c (fe a6 t bQ cE C.r aW b9 (ak st 0) cZ bu) [(st,⟨jI m bb bm cT,true⟩)])++eO):=by rw[<- Hk];exact hO
 refine awh (i:=S.length+7) ok aA.bo dd (aC rfl) tx ao aD ?_;clear hO dd;intro H hO;rw[<- Hk]at hO
 replace hO:al H (S++hj A B C c (fe a6 t bQ cE C.r aW b9 (ak st 0) cZ bu) (vP st m bb bm cT eO)):=hO
 refine ai jt (sk (fun af=>?_) (fun af=>?_))
 ·have af:¬(cT=m.a1.length/\gB aj=m.cq):=fun ax=>by simp_all
  refine aY (c4 hO 6 rfl rfl (by grind[Hi]) ?_);clear hO;intro H hO;rw[aeZ aJ]at hO;exact k2 ea af H hO
 ·have af:cT=m.a1.length/\gB aj=m.cq:=Classical.byContradiction fun ax=>by simp_all
  refine aY (cI hO 6 rfl (v:=ak C.r 0) rfl (ai awq (EF (i:=5) (j:=4) hO rfl rfl (by omega) jO rfl (fun ax=>absurd ax (by omega)) ?_)));clear hO;intro _ H bx Hl hO
  replace hO:=Se (dX:=[.iface 320 (agg [])]) hO
  refine aY (c4 hO 6 rfl rfl (by grind[Hi]) ?_);clear hO;intro H hO;rw[awl aJ]at hO;exact fC ea af H bx Hl hO
theorem awu(aJ:aW.cq.length=32)(ok:m.b1)(U:eB m)(aA:fR S bb m.a1)(hO:al H (S++hj A B C c (fe a6 t bQ B.r C.r aW b9 (ak st 0) cZ bu) (vP st m bb bm cT eO)))(ck:ik 1 B.n B.f B.aP B.ar)(jO:ik 1 C.n C.f C.aP C.ar)(tx:ln bm aj eO)(ao:ct aj)(aD:aj.length<=1000000)
  (aM:cl S w bg) (ba:ct bg) (lU:bg.length<=1000000) (EG:cT<m.a1.length) (jX:B.aP.length<B.n) (qK:C.aP.length<C.n)
  (eT:¬((bg.length:Int)=(gw m cT).2/\gB bg=m.a1[cT])->∀ab bx,ik 1 B.n B.f (B.aP++[[.iface 313 (agg [int cT])]]) bx->al ab (S++hj A (B.lp bx [.iface 313 (agg [int cT])]) C c (fe a6 t bQ B.r C.r aW b9 (ak st 0) cZ bu) (vP st m bb bm cT eO))->aa (.tuple [].toArray) ab)
  (ph:((bg.length:Int)=(gw m cT).2/\gB bg=m.a1[cT])->∀ab bx cv,ln bm (aj++bg) cv->ik 1 C.n C.f (C.aP++[[.iface 327 (agg [int cT,w])]]) bx->al ab (S++hj A B (C.lp bx [.iface 327 (agg [int cT,w])]) c (fe a6 t bQ B.r C.r aW b9 (ak st 0) cZ bu) (vP st m bb bm (cT+1) cv))->aa (.tuple [].toArray) ab):
  wCall P 140 [ak c 0,agg [int cT,w]] H aa:=by
 apply apZ;unfold aac;obtain⟨vQ,vR,vS,rfl⟩:=aM.lC;rw[uH];refine dT hO ?_;clear hO;intro fm H hO;have dd:al H (((S++hj A B C c (fe a6 t bQ B.r C.r aW b9 (ak st 0) cZ bu) [(st,⟨jI m bb bm cT,true⟩)])++[(fm,⟨[int cT,.slice vQ vR vS],true⟩)])++eO):=by refine GX ?_;rw[<- Hk];exact hO
 clear hO;have hO:=dd;clear dd;have aq:((S++hj A B C c (fe a6 t bQ B.r C.r aW b9 (ak st 0) cZ bu) [(st,⟨jI m bb bm cT,true⟩)])++[(fm,(⟨[int cT,.slice vQ vR vS],true⟩:az))])[S.length+7]?=some (st,⟨jI m bb bm cT,true⟩):=aS (aC rfl);refine aY (aZ hO (S.length+6) (aS (aS (aC rfl))) (EH aJ) (ai ed (aZ hO (_+0) (aS (aC rfl)) (v:=int cT) rfl (ai ed (aZ hO (_+0) (aS (aC rfl)) (v:=.slice vQ vR vS) rfl (awi ok U aA.bo.bo hO aq tx ao aD aM.bo.bo ba lU EG ?_ ?_))))))
 ·clear hO;intro hg H hO;rw[List.append_assoc,<- Hk]at hO
  replace hO:al H (S++hj A B C c (fe a6 t bQ B.r C.r aW b9 (ak st 0) cZ bu) ((st,⟨jI m bb bm cT,true⟩)::(fm,⟨[int cT,.slice vQ vR vS],true⟩)::eO)):=hO
  refine ai jh (nK (by decide) (aY (cI hO 6 rfl (v:=ak B.r 0) rfl (ai ed (cI hO 8 rfl (v:=int cT) rfl (ai (ae0 _) (EF (i:=3) (j:=2) hO rfl rfl (by omega) ck rfl (fun ax=>absurd ax (by omega)) ?_)))))));clear hO;intro _ H bx Hm hO
  replace hO:=Sf (dX:=[.iface 313 (agg [int cT])]) hO
  exact eT hg H bx Hm (Hj hO ((List.sublist_cons_self _ _).cons_cons _))
 ·clear hO;intro hg H cv Sa hO;rw[List.set_append_left _ _ (by simp[hj]),Go.Ab.cy,List.append_assoc]at hO
  replace hO:al H ((S++hj A B C c (fe a6 t bQ B.r C.r aW b9 (ak st 0) cZ bu) [(st,⟨jI m bb bm (cT+1),true⟩)])++([(fm,⟨[int cT,.slice vQ vR vS],true⟩)]++cv)):=hO
  rw[<- Hk]at hO
  replace hO:al H (S++hj A B C c (fe a6 t bQ B.r C.r aW b9 (ak st 0) cZ bu) ((st,⟨jI m bb bm (cT+1),true⟩)::(fm,⟨[int cT,.slice vQ vR vS],true⟩)::cv)):=hO
  refine ai jh (tb (fun h=>h rfl) (aY (cI hO 6 rfl (v:=ak C.r 0) rfl (ai ed (cI hO 8 rfl (v:=int cT) rfl (ai ed (cI hO 8 rfl (v:=.slice vQ vR vS) rfl (ai (awr _ _ _ _) (EF (i:=5) (j:=4) hO rfl rfl (by omega) jO rfl (fun ax=>absurd ax (by omega)) ?_)))))))));clear hO;intro _ H bx Hl hO
  replace hO:=Se (dX:=[.iface 327 (agg [int cT,.slice vQ vR vS])]) hO
  exact ph hg H bx cv Sa Hl (Hj hO ((List.sublist_cons_self _ _).cons_cons _))
end J
namespace J
open Go Go.Ab
variable[cu:b0]
variable{H:au}{S:List (Nat×az)}{bb a6 b9 cF:Value}{n k f c:Nat}{e bu:Int}{aE:List Value}{m aW:df}{t:pT}{a1:List (List Int)}{cZ:Bool}{bQ cE ff:Nat}
theorem awv{X e0:List (Nat×az)}(h:al H ((S++e0)++X)):al H ((S++X)++e0):=h.fP (by rw[List.append_assoc,List.append_assoc];exact List.Perm.append_left S List.perm_append_comm)
theorem aww(aJ:aW.cq.length=32):((fe a6 t bQ cE ff aW b9 cF cZ bu).drop (0+1)).take 3=rO t:=rfl
theorem awx(aJ:aW.cq.length=32)(aV:m.cq.length=32):(fe a6 t bQ cE ff aW b9 cF cZ bu).take (0+7)++(b4 m bb++(fe a6 t bQ cE ff aW b9 cF cZ bu).drop (0+7+37))=fe a6 t bQ cE ff m bb cF cZ bu:=by
 unfold fe;have e:(a6::bZ t.cz::bS .u64 t.c6::int t.xI::ak bQ 0::ak cE 0::ak ff 0::(b4 aW b9++[cF,Value.bool cZ,int bu])).drop (0+7+37)=[cF,Value.bool cZ,int bu]:=by
  show((b4 aW b9++[cF,Value.bool cZ,int bu])).drop 37=_
  simp_all[e1]
 rw[e];rfl
theorem ae1(aJ:m.cq.length=32)(n:Int)(a:Option Addr)(k c:Nat):(di P 316).f [(0,int n),(1,agg (b4 m (.slice a k c)))]=some (agg (int n::b4 m (.slice a k c))):=by
 obtain⟨cz,dN,c0,aE,cq,a1⟩:=m;have aJ:cq.length=32:=aJ
 match cq,aJ with
 | [a0,dm,da,a3,a4,a5,lF,np,pI,a9,Rz,RA,RB,RC,RD,RE,Bv,RF,RG,RH,a20,a21,RI,RJ,RK,RL,RM,RN,RO,RP,RQ,RR],_=>rfl
end J
namespace J
open Go Go.Ab
variable[cu:b0]
variable{H:au}{S eO:List (Nat×az)}{aa:VH}{v w bb a6 b9:Value}{b key:List Int}{i j r n f bm st c:Nat}{bu:Int}{ar bx:List Value}{m aW:df}{t:pT}{aP:List (List Value)}{dX:List Value}{a1:List (List Int)}{cZ:Bool}{A B C:fW}{bQ:Nat}
theorem awy:oN m t=0↔eB m/\mx m.cz=mx t.cz/\¬m.dN<t.c6/\¬m.c0>t.xI:=by
 unfold oN
 grind
theorem awz(aJ:aW.cq.length=32)(hO:al H (S++hj A B C c (fe a6 t bQ B.r C.r aW b9 (.pointer none) cZ bu) []))(ck:ik 1 B.n B.f B.aP B.ar)(jO:ik 1 C.n C.f C.aP C.ar)
  (rB:cl S a6 key) (an:ct key) (kF:key.length<=1000000) (aM:cl S w b) (mL:ct b) (oI:b.length<=1000000) (ht:t.cz.length<=1000000) (jX:B.aP.length<B.n) (qK:C.aP.length<C.n)
  (k2:(eN key b).2.2≠0->∀ab bx,ik 1 B.n B.f (B.aP++[[.iface 313 (agg [int (-1)])]]) bx->al ab (S++hj A (B.lp bx [.iface 313 (agg [int (-1)])]) C c (fe a6 t bQ B.r C.r aW b9 (.pointer none) cZ bu) [])->aa (.tuple [].toArray) ab)
  (awA:(eN key b).2.2=0->oN (eN key b).1 t≠0->∀ab,al ab (S++hj A B C c (fe a6 t bQ B.r C.r aW b9 (.pointer none) cZ (oN (eN key b).1 t)) [])->aa (.tuple [].toArray) ab)
  (fC:(eN key b).2.2=0->oN (eN key b).1 t=0->eB (eN key b).1->∀ab X bb oi st bm eO l4 Eu,ln bm [] eO->fR X bb (eN key b).1.a1->fR X oi (eN key b).1.a1->
   ik 1 B.n B.f (B.aP++[[.iface 316 (agg (int (eN key b).2.1::b4 (eN key b).1 bb))]]) l4->ik 1 C.n C.f (C.aP++[[.iface 316 (agg (int (eN key b).2.1::b4 (eN key b).1 bb))]]) Eu->
   al ab ((S++X)++hj A (B.lp l4 [.iface 316 (agg (int (eN key b).2.1::b4 (eN key b).1 bb))]) (C.lp Eu [.iface 316 (agg (int (eN key b).2.1::b4 (eN key b).1 bb))]) c (fe a6 t bQ B.r C.r (eN key b).1 bb (ak st 0) cZ bu) (vP st (eN key b).1 oi bm 0 eO))->aa (.tuple [].toArray) ab):
  wCall P 139 [ak c 0,w] H aa:=by
 apply apY;unfold aab;have ok:=aeA (key:=key) mL oI;have ug:=aey (key:=key) mL oI;refine aY (cI hO 6 rfl (v:=a6) rfl (avC hO rB.bo aM.bo an mL kF oI ?_));clear hO;intro H bb hO ad;generalize eN key b=hn at*;obtain⟨m,C1,ey⟩:=hn;simp only at*;have hO:=awv hO;have ae2:fR (S++b2 bb (hK m.a1)) bb m.a1:=ad.jv;generalize vF:b2 bb (hK m.a1)=X at*;refine ai avJ (ai avK (ai avL ?_));rw[Ez];refine j8 hO ?_;clear hO;intro cY H hO
 replace hO:al H ((S++X)++hj A B C c (fe a6 t bQ B.r C.r aW b9 (.pointer none) cZ bu) [(cY,⟨b4 eW bB,true⟩)]):=hO
 refine lo hO 7 rfl rfl (e1 ok.dR) (pg ad.gd) ?_;clear hO;intro H hO
 replace hO:al H ((S++X)++hj A B C c (fe a6 t bQ B.r C.r aW b9 (.pointer none) cZ bu) [(cY,⟨b4 m bb,true⟩)]):=hO
 refine ai jh (bT (fun he=>?_) (fun he=>?_))
 ·refine aY (cI hO 6 rfl (v:=ak B.r 0) rfl (ai (ae0 _) (EF (i:=3) (j:=2) hO rfl rfl (by omega) ck rfl (fun ax=>absurd ax (by omega)) ?_)));clear hO;intro _ H bx Hm hO
  replace hO:=Hj (Sf (dX:=[.iface 313 (agg [int (-1)])]) hO) (List.nil_sublist _)
  refine k2 he H bx Hm ?_;rw[List.append_assoc]at hO;exact adA hO
 have he:ey=0:=Classical.not_not.1 he;refine jj hO 7 rfl (e1 ok.dR) (by omega) (aY (jM hO ((S++X).length+6) (aC rfl) (aww aJ) rfl (by omega) (avU ok ae2.bo ht hO ?_)));clear hO;intro H hO;refine ai jh (bT (fun br=>?_) (fun br=>?_))
 ·refine aY (c4 hO 6 rfl rfl (by grind[Hi]) ?_);clear hO;intro H hO;rw[aeZ aJ]at hO
  replace hO:al H ((S++X)++hj A B C c (fe a6 t bQ B.r C.r aW b9 (.pointer none) cZ (oN m t)) [(cY,⟨b4 m bb,true⟩)]):=hO
  refine awA he br H ?_;have hO:=Hj hO (List.nil_sublist _);rw[List.append_assoc]at hO;exact adA hO
 have br:oN m t=0:=Classical.not_not.1 br;have U:eB m:=(awy.1 br).1;refine jj hO 7 rfl (e1 ok.dR) (by omega) (aY (o9 hO ((S++X).length+6) (aC rfl) (e1 ok.dR) (by grind[Hi]) (pg ad.gd) ?_));clear hO;intro H hO
 replace hO:=hO.cy
 rw[uH,awx aJ ok.dR]at hO
 replace hO:al H ((S++X)++hj A B C c (fe a6 t bQ B.r C.r m bb (.pointer none) cZ bu) [(cY,⟨b4 m bb,true⟩)]):=hO
 refine jj hO 7 rfl (e1 ok.dR) (by omega) (awa ok ae2.bo U hO ?_);clear hO;intro H oi bm eO st tx af hO;generalize aCx:b2 oi (hK m.a1)=iQ at*
 replace hO:al H ((((S++X)++(hj A B C c (fe a6 t bQ B.r C.r m bb (.pointer none) cZ bu) []++[(cY,⟨b4 m bb,true⟩)]))++iQ)++(eO++[(st,⟨jI m oi bm 0,true⟩)])):=hO
 have dd:al H ((S++(X++iQ))++(hj A B C c (fe a6 t bQ B.r C.r m bb (.pointer none) cZ bu) []++([(st,⟨jI m oi bm 0,true⟩)]++([(cY,⟨b4 m bb,true⟩)]++eO)))):=hO.fP (by classical exact List.perm_iff_count.2 fun _=>by grind);clear hO;have hO:al H ((S++(X++iQ))++hj A B C c (fe a6 t bQ B.r C.r m bb (.pointer none) cZ bu) ((st,⟨jI m oi bm 0,true⟩)::(cY,⟨b4 m bb,true⟩)::eO)):=dd;clear dd;refine ai rfl (ai rfl (aY (c4 hO 6 rfl rfl (by rw[Hi ok.dR];omega) ?_)));clear hO;intro H hO;rw[awk ok.dR]at hO
 replace hO:al H ((S++(X++iQ))++hj A B C c (fe a6 t bQ B.r C.r m bb (ak st 0) cZ bu) ((st,⟨jI m oi bm 0,true⟩)::(cY,⟨b4 m bb,true⟩)::eO)):=hO
 refine aY (cI hO 6 rfl (v:=ak B.r 0) rfl (jj hO 8 rfl (e1 ok.dR) (by omega) ?_));obtain⟨kz,gH,cc,rfl⟩:=ad.lC;refine ai (ae1 ok.dR _ _ _ _) (EF (i:=3) (j:=2) hO rfl rfl (by omega) ck rfl (fun ax=>absurd ax (by omega)) ?_);clear hO;intro _ H l4 Hm hO
 replace hO:=Sf (dX:=[.iface 316 (agg (int C1::b4 m (.slice kz gH cc)))]) hO
 refine aY (cI hO 6 rfl (v:=ak C.r 0) rfl (jj hO 8 rfl (e1 ok.dR) (by omega) (ai (ae1 ok.dR _ _ _ _) (EF (i:=5) (j:=4) hO rfl rfl (by omega) jO rfl (fun ax=>absurd ax (by omega)) ?_))));clear hO;intro _ H Eu Hl hO
 replace hO:=Se (dX:=[.iface 316 (agg (int C1::b4 m (.slice kz gH cc)))]) hO
 refine fC he br U H (X++iQ) _ oi st bm eO l4 Eu tx ?_ ?_ Hm Hl (Hj hO ((List.sublist_cons_self _ _).cons_cons _))
 ·exact ad.bo
 ·exact af.jv
end J
namespace J
open Go Go.Ab
variable[cu:b0]
variable{H:au}{Γ S T:List (Nat×az)}{aa:VH}{v a6:Value}{key:List Int}{q r n f c:Nat}{e:Int}{bx aE:List Value}{t:pT}{aP:List (List Value)}{A B C:fW}{bQ cE ff:Nat}
def fW.dP(R:fW)(bx:List Value)(Sg:List (List Value)):fW:=⟨R.q,R.r,R.n,(R.f+1)%R.n,bx,Sg⟩
theorem awB(h:al H (S++((hj A B C c aE T).set 0 (A.q,⟨bx,true⟩)).set 1 (A.r,⟨c8 A.q A.n 2 ((A.f+1)%A.n) aP.length,true⟩))):al H (S++hj (A.dP bx aP) B C c aE T):=h
theorem awC(a6:Value)(t:pT)(bQ cE ff:Nat)(a:Option Addr)(n c:Nat)(ag:a6=.slice a n c):(di P 253).f [(0,a6),(1,agg (rO t)),(2,ak bQ 0),(3,ak cE 0),(4,ak ff 0)]=some (agg (fe a6 t bQ cE ff eW bB (.pointer none) false 0)):=by subst ag;rfl
theorem awD(hO:al H Γ)(rB:cl Γ v key)(kF:key.length<=1000000)
  (ag:∀ab a6 ns c,al ab ((Γ++b2 a6 ns)++[(c,⟨fe a6 t bQ cE ff eW bB (.pointer none) false 0,true⟩)])->fI a6 key ns->aa (ak c 0) ab):wCall P 81 [v,agg (rO t),ak bQ 0,ak cE 0,ak ff 0] H aa:=by
 apply apm;unfold Zq;rw[aeF];refine j8 hO.z ?_;clear hO;intro gP H hO
 replace hO:al H (Γ++[(gP,⟨rO t,true⟩)]):=hO
 have dJ:=hO;refine KO hO rB.bo (by omega) ?_;clear hO;intro cD a6 ns hO LM;refine hi hO (Γ.length+0) (aS (aC rfl)) (n:=3) rfl (by omega) (⟨ha dJ (Γ.length+0) (aC rfl) hO (Γ.length+0) (aS (aC rfl)) rfl,?_⟩);obtain⟨a,n,cC,e⟩:=LM.lR.lC;refine ai (awC a6 t bQ cE ff a n cC e) ?_;rw[uH];refine dT hO ?_;clear hO dJ;intro c H hO;refine ag H a6 ns c (hO.sub ?_) LM;simp only[List.append_assoc];exact List.Sublist.append (List.Sublist.refl Γ) (List.sublist_append_right [(gP,_)] _)
end J
