/- texts of the proof, one behind the other -/
import Derived.Test.YtheklmekepeblaaGreatDoorUG
set_option linter.unusedVariables false
set_option linter.unusedSimpArgs false
set_option linter.unusedSectionVars false
set_option maxRecDepth 100000
namespace J
open Go Go.Ab
variable{H:Heap}{Γ Γ0 Γ2 Δ G L:List (Nat × Blk)}{K:VH}{v w x cv dv:Value}{xs ys zs bs b key ms:List Int}{i j p q r o n k f wd:Nat}{e:Int}{cs cs' c1:List Value}{l:List UInt8}{m:Mf}{t u:Tm}{es:List (List Value)}{el:List Value}
def rgC(q n wd f k:Nat):List Value:=[sl q 0 n (2 * wd+1),int f,int k,.bool false]
structure Rg (wd n f:Nat) (es:List (List Value)) (cs:List Value):Prop where
 n1:1≤n
 n16:n≤16
 fl:f < n
 kl:es.length≤n
 len:cs.length=n * wd
 wl:∀ e ∈ es,e.length=wd
 at':∀ j (h:j < es.length),(cs.drop (((f+j) % n) * wd)).take wd=es[j]
theorem zMr(hn:1≤n)(j:Nat):(f+j) % n < n:=Nat.mod_lt _ (by omega)
theorem zbJ{j:Nat}(hf:f < n)(hj:j < n):(f+j) % n=if f+j < n then f+j else f+j - n:=by
 split
 ·rename_i h; exact Nat.mod_eq_of_lt h
 ·rw[Nat.mod_eq_sub_mod (by omega),Nat.mod_eq_of_lt (by omega)]
theorem zcJ{j k:Nat}(hf:f < n)(hj:j < k)(hk:k < n):(f+j) % n≠(f+k) % n:=by
 rw[zbJ hf hk,zbJ hf (by omega)]
 split <;> split <;> omega
theorem zqC{a:Nat}(h:a < n)(hl:cs.length=n * wd)(he:el.length=wd):(cs.take (a * wd)++(el++cs.drop (a * wd+wd))).length=n * wd:=by
 have:a * wd+wd≤n * wd:=by rw[← Nat.succ_mul]; exact Nat.mul_le_mul_right _ h
 simp only[List.length_append,List.length_take,List.length_drop]
 omega
theorem zEE{a:Nat}(h:a < n)(hl:cs.length=n * wd)(he:el.length=wd):((cs.take (a * wd)++(el++cs.drop (a * wd+wd))).drop (a * wd)).take wd=el:=by
 have:a * wd+wd≤n * wd:=by rw[← Nat.succ_mul]; exact Nat.mul_le_mul_right _ h
 rw[List.drop_left' (by rw[List.length_take]; omega),List.take_left' he]
theorem zjv{a c:Nat}(h:a < n)(hc:c < n)(hne:a≠c)(hl:cs.length=n * wd)(he:el.length=wd):((cs.take (a * wd)++(el++cs.drop (a * wd+wd))).drop (c * wd)).take wd=(cs.drop (c * wd)).take wd:=by
 have h1:a * wd+wd≤n * wd:=by rw[← Nat.succ_mul]; exact Nat.mul_le_mul_right _ h
 have h2:c * wd+wd≤n * wd:=by rw[← Nat.succ_mul]; exact Nat.mul_le_mul_right _ hc
 apply List.ext_getElem?
 intro y
 rw[List.getElem?_take,List.getElem?_take]
 split
 ·rename_i hy
  rw[List.getElem?_drop,List.getElem?_drop]
  rcases Nat.lt_or_gt_of_ne hne with h3|h3
  ·have h4:a * wd+wd≤c * wd:=by rw[← Nat.succ_mul]; exact Nat.mul_le_mul_right _ h3
   rw[List.getElem?_append_right (by rw[List.length_take]; omega),List.getElem?_append_right (by rw[List.length_take]; omega),List.getElem?_drop]
   congr 1
   rw[List.length_take]; omega
  ·have h4:c * wd+wd≤a * wd:=by rw[← Nat.succ_mul]; exact Nat.mul_le_mul_right _ h3
   rw[List.getElem?_append_left (by rw[List.length_take]; omega),List.getElem?_take,if_pos (by omega)]
 ·rfl
theorem Rg.send(h:Rg wd n f es cs)(hk:es.length < n)(he:el.length=wd):Rg wd n f (es++[el]) (cs.take (((f+es.length) % n) * wd)++(el++cs.drop (((f+es.length) % n) * wd+wd))):=by
 have hm:=zMr (f:=f) h.n1 es.length
 refine⟨h.n1,h.n16,h.fl,by simp; omega,zqC hm h.len he,?_,?_⟩
 ·intro e hm
  rcases List.mem_append.1 hm with h1|h1
  ·exact h.wl e h1
  ·rw[List.mem_singleton.1 h1]; exact he
 ·intro j hj
  by_cases h1:j < es.length
  ·rw[zjv hm (zMr h.n1 j) (zcJ h.fl h1 hk).symm h.len he,List.getElem_append_left h1]
   exact h.at' j h1
  ·have:j=es.length:=by simp at hj; omega
   subst this
   rw[zEE hm h.len he]
   simp
theorem Rg.recv(h:Rg wd n f (el::es) cs){z:List Value}(hz:z.length=wd):Rg wd n ((f+1) % n) es (cs.take (f * wd)++(z++cs.drop (f * wd+wd))):=by
 have hk:=h.kl
 rw[List.length_cons] at hk
 refine⟨h.n1,h.n16,zMr h.n1 1,by omega,zqC h.fl h.len hz,fun e hm=>h.wl e (List.mem_cons_of_mem _ hm),?_⟩
 intro j hj
 have e1:((f+1) % n+j) % n=(f+(j+1)) % n:=by rw[Nat.mod_add_mod]; congr 1; omega
 have e2:f≠(f+(j+1)) % n:=by
  have:=zcJ (f:=f) (j:=0) (k:=j+1) h.fl (by omega) (by omega)
  rw[Nat.add_zero,Nat.mod_eq_of_lt h.fl] at this
  exact this
 rw[e1,zjv h.fl (zMr h.n1 (j+1)) e2 h.len hz]
 exact h.at' (j+1) (by simp; omega)
theorem Rg.head(h:Rg wd n f (el::es) cs):(cs.drop (f * wd)).take wd=el:=by
 have:=h.at' 0 (by simp)
 rw[Nat.add_zero,Nat.mod_eq_of_lt h.fl] at this
 exact this
theorem zmz(hO:St H (Γ++L))(hi:L[i]?=some (r,⟨rgC q n 2 f k,true⟩))(hk:k≤n)(hn:n≤16)(hK:K (int ((n - k:Nat):Int)) H):wCall P zlc [ptr r 0] H K:=by
 apply zYf; unfold zWd
 refine zaa zca ?_
 refine zaa zba ?_
 refine ld hO i hi (v:=.bool false) rfl ?_
 refine zDb rfl ?_
 refine zaa zca ?_
 refine zaa zba ?_
 refine ld hO i hi (v:=sl q 0 n 5) rfl ?_
 refine zva zCf ?_
 refine zaa zca ?_
 refine zaa zba ?_
 refine ld hO i hi (v:=int k) rfl ?_
 refine zaa (zBb (by omega) (by omega)) ?_
 rw[show ((n - k:Nat):Int)=(n:Int) - k by omega] at hK
 exact hK
theorem zcq(hO:St H (Γ++L))(hi:L[i]?=some (r,⟨rgC q n 2 f k,true⟩))(hf:f < n)(hn:n≤16)(hj:j≤16)(hK:K (int (((f+j) % n:Nat):Int)) H):wCall P zEb [ptr r 0,int j] H K:=by
 apply zIf; unfold zId
 refine zaa zca ?_
 refine zaa zba ?_
 refine ld hO i hi (v:=int f) rfl ?_
 refine zaa (zCi (by omega)) ?_
 refine zaa zca ?_
 refine zaa zba ?_
 refine ld hO i hi (v:=sl q 0 n 5) rfl ?_
 refine zva zCf ?_
 refine zaa (zgv (by omega)) ?_
 exact hK
theorem zkv(hO:St H (Γ++L))(hi:L[i]?=some (r,⟨rgC q n 2 f k,true⟩))(hK:K (int k) H):wCall P zgb [ptr r 0] H K:=by
 apply zlg; unfold zte
 refine zaa zca ?_
 refine zaa zba ?_
 refine ld hO i hi (v:=int k) rfl ?_
 exact hK
theorem ztc(l:List Value):zza (agg l)=l:=rfl
theorem znz{a:Int}{v:Value}(hO:St H (Γ++L))(hi:L[i]?=some (r,⟨rgC q n 2 f es.length,true⟩))(hj:L[j]?=some (q,⟨cs,true⟩))(hij:i≠j)(h:Rg 2 n f es cs)(hv:zab v=true)(hv1:oneCell v=true)
  (hno:es.length=n→∀ H',St H' (Γ++L)→K (.bool false) H')
  (hyes:es.length < n→∀ H' cs',Rg 2 n f (es++[[int a,v]]) cs'→St H' (Γ++((L.set j (q,⟨cs',true⟩)).set i (r,⟨rgC q n 2 f (es.length+1),true⟩)))→K (.bool true) H') :
  wCall P zbb [ptr r 0,agg [int a,v]] H K:=by
 apply zXf; unfold zVd
 have hkn:=h.kl
 have h16:=h.n16
 have hil:=(List.getElem?_eq_some_iff.1 hi).1
 have hjl:=(List.getElem?_eq_some_iff.1 hj).1
 rw[ztc]
 refine nw hO ?_
 clear hO
 intro p3 H hO
 have hi':=zCa (L:=[(p3,(⟨[int a,v],true⟩:Blk))]) hi
 have hj':=zCa (L:=[(p3,(⟨[int a,v],true⟩:Blk))]) hj
 refine zmz hO hi' hkn h16 ?_
 refine zaa zUa ?_
 refine zma (fun h0=>?_) (fun h0=>?_)
 ·exact hno (by omega) H (zji hO)
 have hlt:es.length < n:=by omega
 have hm:=zMr (f:=f) h.n1 es.length
 refine zaa zca ?_
 refine zaa zba ?_
 refine ld hO i hi' (v:=sl q 0 n 5) rfl ?_
 refine zaa zca ?_
 refine zaa zba ?_
 refine ld hO i hi' (v:=int es.length) rfl ?_
 refine zcq hO hi' h.fl h16 (by omega) ?_
 refine⟨zcb hO (Γ.length+i) (zwa hi') hO (Γ.length+i) (zwa hi') rfl,?_⟩
 refine zFa hO (Γ.length+L.length) (zwa (List.getElem?_concat_length ..)) rfl (by omega) ?_
 refine⟨zcb hO (Γ.length+L.length) (zwa (List.getElem?_concat_length ..)) hO (Γ.length+L.length) (zwa (List.getElem?_concat_length ..)) (by simp[hv]; rfl),?_⟩
 refine zaa (zqb (by omega) (by omega)) ?_
 have hoff:0+(((f+es.length) % n:Nat):Int).toNat * 2=((f+es.length) % n) * 2:=by rw[Int.toNat_natCast,Nat.zero_add]
 rw[hoff]
 have hle:(f+es.length) % n * 2+2≤cs.length:=by rw[h.len]; omega
 refine zed hO (Γ.length+j) (zwa hj') (by rfl) hle (by simp[ztc,hv1]; rfl) ?_
 clear hO
 intro H hO
 replace hO:=hO.set_r
 rw[List.set_append_left _ _ hjl] at hO
 have hs:Rg 2 n f (es++[[int a,v]]) (cs.take (((f+es.length) % n) * 2)++(zza (agg [int a,v])++cs.drop (((f+es.length) % n) * 2+2))):=h.send hlt rfl
 generalize cs.take (((f+es.length) % n) * 2)++(zza (agg [int a,v])++cs.drop (((f+es.length) % n) * 2+2))=c2 at *
 have hi2:=zCa (L:=[(p3,(⟨[int a,v],true⟩:Blk))]) ((List.getElem?_set_ne (by omega:j≠i):(L.set j (q,(⟨c2,true⟩:Blk)))[i]?=L[i]?).trans hi)
 refine zaa zca ?_
 refine zaa zba ?_
 refine ld hO i hi2 (v:=int es.length) rfl ?_
 refine zaa (zCi (b:=1) (by omega)) ?_
 refine zaa zca ?_
 refine zaa zba ?_
 refine s1 hO i hi2 rfl (by simp[rgC]) ?_
 clear hO
 intro H hO
 rw[List.set_append_left _ _ (by rw[List.length_set]; exact hil)] at hO
 exact hyes hlt H c2 hs (zji hO)
end J
set_option maxRecDepth 100000
namespace J
open Go Go.Ab
variable{H:Heap}{Γ Γ0 Γ2 Δ G L:List (Nat × Blk)}{K:VH}{v w x cv dv:Value}{xs ys zs bs b key ms:List Int}{i j p q r o n k f wd:Nat}{e:Int}{cs cs' c1:List Value}{l:List UInt8}{m:Mf}{t u:Tm}{es:List (List Value)}{el:List Value}
theorem zpt:zc P 35=[int 0,zqa]:=by kernel_rfl
def zFE(z:List Value):List (List Value)→List Value
 | []=>z
 | el::_=>el
def zdJ:List (List Value)→Bool
 | []=>false
 | _::_=>true
theorem two{A:List Value}(h:A.length=2):∃ a b,A=[a,b]:=by
 match A,h with
 | [a,b],_=>exact⟨a,b,rfl⟩
theorem one1{A:List Value}(h:A.length=1):∃ a,A=[a]:=by
 match A,h with
 | [a],_=>exact⟨a,rfl⟩
set_option maxHeartbeats 1000000 in
theorem zoz(hO:St H (Γ++L))(hi:L[i]?=some (r,⟨rgC q n 2 f es.length,true⟩))(hj:L[j]?=some (q,⟨cs,true⟩))(h:Rg 2 n f es cs)(h1:∀ e ∈ es,e.all oneCell=true)
  (hk:∀ H',St H' (Γ++L)→K (.tuple [agg (zFE [int 0,zqa] es),.bool (zdJ es)].toArray) H'):wCall P znc [ptr r 0] H K:=by
 apply zbg; unfold zZd
 have h16:=h.n16
 rw[zpt]
 refine nw hO ?_
 clear hO
 intro p2 H hO
 refine nw hO ?_
 clear hO
 intro p4 H hO
 rw[List.append_assoc] at hO
 replace hO:St H (Γ++(L++[(p2,⟨[int 0,zqa],true⟩),(p4,⟨[int 0,zqa],true⟩)])):=hO
 have hi':=zCa (L:=[(p2,(⟨[int 0,zqa],true⟩:Blk)),(p4,⟨[int 0,zqa],true⟩)]) hi
 have hj':=zCa (L:=[(p2,(⟨[int 0,zqa],true⟩:Blk)),(p4,⟨[int 0,zqa],true⟩)]) hj
 refine zaa zca ?_
 refine zaa zba ?_
 refine ld hO i hi' (v:=int es.length) rfl ?_
 refine zaa zUa ?_
 cases es with
 | nil=>
  refine zNb rfl ?_
  refine lw hO (L.length+1) (zwa rfl) rfl (by omega) ?_
  refine sw hO (L.length+0) (zwa rfl) rfl rfl rfl ?_
  clear hO
  intro H hO
  rw[Go.Ab.set_r] at hO
  refine lw hO (L.length+0) (zwa rfl) rfl (by omega) ?_
  exact hk H (zji hO)
 | cons el es=>
  refine zqc (by simp; omega) ?_
  have h2:=h.wl el (by simp)
  have h3:=h1 el (by simp)
  have hf:=h.fl
  refine zaa zca ?_
  refine zaa zba ?_
  refine ld hO i hi' (v:=sl q 0 n 5) rfl ?_
  refine zaa zca ?_
  refine zaa zba ?_
  refine ld hO i hi' (v:=int f) rfl ?_
  refine zaa (zqb (by omega) (by omega)) ?_
  rw[show 0+((f:Nat):Int).toNat * 2=f * 2 by rw[Int.toNat_natCast,Nat.zero_add]]
  refine zua hO (Γ.length+j) (zwa hj') h.head h2 (by omega) ?_
  refine sw hO (L.length+0) (zwa rfl) rfl h2 h3 ?_
  clear hO
  intro H hO
  rw[Go.Ab.set_r] at hO
  refine lw hO (L.length+0) (zwa rfl) h2 (by omega) ?_
  exact hk H (zji hO)
set_option maxHeartbeats 2000000 in
theorem zpz(hO:St H (Γ++L))(hi:L[i]?=some (r,⟨rgC q n 2 f es.length,true⟩))(hj:L[j]?=some (q,⟨cs,true⟩))(hij:i≠j)(h:Rg 2 n f es cs)(h1:∀ e ∈ es,e.all oneCell=true)
  (hno:es=[]→∀ H',St H' (Γ++L)→K (.tuple [agg [int 0,zqa],.bool false].toArray) H')
  (hyes:∀ el er,es=el::er→∀ H' cs',Rg 2 n ((f+1) % n) er cs'→St H' (Γ++((L.set j (q,⟨cs',true⟩)).set i (r,⟨rgC q n 2 ((f+1) % n) er.length,true⟩)))→K (.tuple [agg el,.bool true].toArray) H') :
  wCall P zmc [ptr r 0] H K:=by
 apply zZf; unfold zXd
 have h16:=h.n16
 have hf:=h.fl
 have hil:=(List.getElem?_eq_some_iff.1 hi).1
 have hjl:=(List.getElem?_eq_some_iff.1 hj).1
 rw[zpt]
 refine nw hO ?_
 clear hO
 intro p2 H hO
 refine zoz hO (zCa hi) (zCa hj) h h1 ?_
 clear hO
 intro H hO
 refine zaa rfl ?_
 refine zaa rfl ?_
 refine nw hO ?_
 clear hO
 intro p4 H hO
 rw[List.append_assoc] at hO
 replace hO:St H (Γ++(L++[(p2,⟨[int 0,zqa],true⟩),(p4,⟨[int 0,zqa],true⟩)])):=hO
 have ht1:(zFE [int 0,zqa] es).length=2:=by
  cases es with
  | nil=>rfl
  | cons el es=>exact h.wl el (by simp)
 have ht2:(zFE [int 0,zqa] es).all oneCell=true:=by
  cases es with
  | nil=>rfl
  | cons el es=>exact h1 el (by simp)
 refine sw hO (L.length+1) (zwa rfl) rfl ht1 ht2 ?_
 clear hO
 intro H hO
 rw[Go.Ab.set_r] at hO
 replace hO:St H (Γ++(L++[(p2,⟨[int 0,zqa],true⟩),(p4,⟨zFE [int 0,zqa] es,true⟩)])):=hO
 cases es with
 | nil=>
  refine zDb rfl ?_
  refine lw hO (L.length+1) (zwa rfl) ht1 (by omega) ?_
  refine sw hO (L.length+0) (zwa rfl) rfl ht1 ht2 ?_
  clear hO
  intro H hO
  rw[Go.Ab.set_r] at hO
  refine lw hO (L.length+0) (zwa rfl) ht1 (by omega) ?_
  exact hno rfl H (zji hO)
 | cons el es=>
  have hkl:=h.kl
  rw[List.length_cons] at hkl
  refine zvd rfl ?_
  refine nw hO ?_
  clear hO
  intro p6 H hO
  rw[List.append_assoc] at hO
  replace hO:St H (Γ++(L++[(p2,⟨[int 0,zqa],true⟩),(p4,⟨el,true⟩),(p6,⟨[int 0,zqa],true⟩)])):=hO
  generalize hT:[(p2,(⟨[int 0,zqa],true⟩:Blk)),(p4,⟨el,true⟩),(p6,⟨[int 0,zqa],true⟩)]=T at *
  have hi':=zCa (L:=T) hi
  have hj':=zCa (L:=T) hj
  refine zaa zca ?_
  refine zaa zba ?_
  refine ld hO i hi' (v:=sl q 0 n 5) rfl ?_
  refine zaa zca ?_
  refine zaa zba ?_
  refine ld hO i hi' (v:=int f) rfl ?_
  refine lw hO (L.length+2) (zwa (by rw[← hT]; rfl)) rfl (by omega) ?_
  refine zaa (zqb (by omega) (by omega)) ?_
  rw[show 0+((f:Nat):Int).toNat * 2=f * 2 by rw[Int.toNat_natCast,Nat.zero_add]]
  have hle:f * 2+2≤cs.length:=by rw[h.len]; omega
  refine zed hO (Γ.length+j) (zwa hj') (by rfl) hle (by rfl) ?_
  clear hO
  intro H hO
  replace hO:=hO.set_r
  rw[List.set_append_left _ _ hjl] at hO
  have hs:Rg 2 n ((f+1) % n) es (cs.take (f * 2)++(zza (agg [int 0,zqa])++cs.drop (f * 2+2))):=h.recv rfl
  generalize cs.take (f * 2)++(zza (agg [int 0,zqa])++cs.drop (f * 2+2))=c2 at *
  have hi2:=zCa (L:=T) ((List.getElem?_set_ne (by omega:j≠i):(L.set j (q,(⟨c2,true⟩:Blk)))[i]?=L[i]?).trans hi)
  refine zcq (j:=1) hO hi2 hf h16 (by omega) ?_
  refine zaa zca ?_
  refine zaa zba ?_
  refine s1 hO i hi2 rfl (by simp[rgC]) ?_
  clear hO
  intro H hO
  rw[List.set_append_left _ _ (by rw[List.length_set]; exact hil)] at hO
  have hi3:((L.set j (q,(⟨c2,true⟩:Blk))).set i (r,⟨rgC q n 2 ((f+1) % n) (es.length+1),true⟩)++T)[i]?=some (r,⟨rgC q n 2 ((f+1) % n) (es.length+1),true⟩):=zCa (List.getElem?_set_self (by rw[List.length_set]; exact hil))
  replace hO:St H (Γ++((L.set j (q,(⟨c2,true⟩:Blk))).set i (r,⟨rgC q n 2 ((f+1) % n) (es.length+1),true⟩)++T)):=hO
  refine zaa zca ?_
  refine zaa zba ?_
  refine ld hO i hi3 (v:=int ((es.length+1:Nat):Int)) rfl ?_
  refine zaa (zBb (by omega) (by omega)) ?_
  refine zaa zca ?_
  refine zaa zba ?_
  refine s1 hO i hi3 rfl (by simp[rgC]) ?_
  clear hO hi3
  intro H hO
  rw[List.set_append_left _ _ (by rw[List.length_set,List.length_set]; exact hil),List.set_set] at hO
  replace hO:St H (Γ++((L.set j (q,(⟨c2,true⟩:Blk))).set i (r,⟨[sl q 0 n 5,int ((f+1) % n:Nat),int (((es.length+1:Nat):Int) - 1),.bool false],true⟩)++T)):=hO
  rw[show (((es.length+1:Nat):Int) - 1)=es.length by omega] at hO
  have hlen:((L.set j (q,(⟨c2,true⟩:Blk))).set i (r,⟨[sl q 0 n 5,int ((f+1) % n:Nat),int es.length,.bool false],true⟩)).length=L.length:=by simp
  subst hT
  refine lw hO (L.length+1) (by rw[← hlen]; exact zwa rfl) ht1 (by omega) ?_
  refine sw hO (L.length+0) (by rw[← hlen]; exact zwa rfl) rfl ht1 ht2 ?_
  clear hO
  intro H hO
  rw[← hlen,Go.Ab.set_r] at hO
  refine lw hO (L.length+0) (by rw[← hlen]; exact zwa rfl) ht1 (by omega) ?_
  exact hyes el es rfl H c2 hs (zji hO)
end J
set_option maxRecDepth 100000
namespace J
open Go Go.Ab
variable{H:Heap}{Γ Γ0 Γ2 Δ G L:List (Nat × Blk)}{K:VH}{v w x cv dv:Value}{xs ys zs bs b key ms:List Int}{i j p q r o n k f wd:Nat}{e:Int}{cs cs' c1:List Value}{l:List UInt8}{m:Mf}{t u:Tm}{es:List (List Value)}{el:List Value}
theorem zQj(hO:St H (Γ++L))(hi:L[i]?=some (r,⟨rgC q n 1 f k,true⟩))(hk:k≤n)(hn:n≤16)(hK:K (int ((n - k:Nat):Int)) H):wCall P zhb [ptr r 0] H K:=by
 apply zmg; unfold zue
 refine zaa zca ?_
 refine zaa zba ?_
 refine ld hO i hi (v:=.bool false) rfl ?_
 refine zDb rfl ?_
 refine zaa zca ?_
 refine zaa zba ?_
 refine ld hO i hi (v:=sl q 0 n 3) rfl ?_
 refine zva zCf ?_
 refine zaa zca ?_
 refine zaa zba ?_
 refine ld hO i hi (v:=int k) rfl ?_
 refine zaa (zBb (by omega) (by omega)) ?_
 rw[show ((n - k:Nat):Int)=(n:Int) - k by omega] at hK
 exact hK
theorem zdq(hO:St H (Γ++L))(hi:L[i]?=some (r,⟨rgC q n 1 f k,true⟩))(hf:f < n)(hn:n≤16)(hj:j≤16)(hK:K (int (((f+j) % n:Nat):Int)) H):wCall P zLb [ptr r 0,int j] H K:=by
 apply zag; unfold zYd
 refine zaa zca ?_
 refine zaa zba ?_
 refine ld hO i hi (v:=int f) rfl ?_
 refine zaa (zCi (by omega)) ?_
 refine zaa zca ?_
 refine zaa zba ?_
 refine ld hO i hi (v:=sl q 0 n 3) rfl ?_
 refine zva zCf ?_
 refine zaa (zgv (by omega)) ?_
 exact hK
theorem zlv(hO:St H (Γ++L))(hi:L[i]?=some (r,⟨rgC q n 1 f k,true⟩))(hK:K (int k) H):wCall P zPa [ptr r 0] H K:=by
 apply zZg; unfold zBe
 refine zaa zca ?_
 refine zaa zba ?_
 refine ld hO i hi (v:=int k) rfl ?_
 exact hK
theorem cells_one{v:Value}(h:oneCell v=true):zza v=[v]:=by cases v <;> first|rfl|(cases h; done)
set_option maxHeartbeats 1000000 in
theorem zPf{v:Value}(hO:St H (Γ++L))(hi:L[i]?=some (r,⟨rgC q n 1 f es.length,true⟩))(hj:L[j]?=some (q,⟨cs,true⟩))(hij:i≠j)(h:Rg 1 n f es cs)(hv1:oneCell v=true)
  (hno:es.length=n→K (.bool false) H)
  (hyes:es.length < n→∀ H' cs',Rg 1 n f (es++[[v]]) cs'→St H' (Γ++((L.set j (q,⟨cs',true⟩)).set i (r,⟨rgC q n 1 f (es.length+1),true⟩)))→K (.bool true) H') :
  wCall P zOa [ptr r 0,v] H K:=by
 apply zog; unfold zxe
 have hkn:=h.kl
 have h16:=h.n16
 have hil:=(List.getElem?_eq_some_iff.1 hi).1
 have hjl:=(List.getElem?_eq_some_iff.1 hj).1
 refine zQj hO hi hkn h16 ?_
 refine zaa zUa ?_
 refine zma (fun h0=>?_) (fun h0=>?_)
 ·exact hno (by omega)
 have hlt:es.length < n:=by omega
 have hm:=zMr (f:=f) h.n1 es.length
 refine zaa zca ?_
 refine zaa zba ?_
 refine ld hO i hi (v:=sl q 0 n 3) rfl ?_
 refine zaa zca ?_
 refine zaa zba ?_
 refine ld hO i hi (v:=int es.length) rfl ?_
 refine zdq hO hi h.fl h16 (by omega) ?_
 refine⟨zcb hO (Γ.length+i) (zwa hi) hO (Γ.length+i) (zwa hi) rfl,?_⟩
 refine zaa (zqb (by omega) (by omega)) ?_
 have hoff:0+(((f+es.length) % n:Nat):Int).toNat * 1=((f+es.length) % n) * 1:=by rw[Int.toNat_natCast,Nat.zero_add]
 rw[hoff]
 have hle:(f+es.length) % n * 1+1≤cs.length:=by rw[h.len]; omega
 refine zed hO (Γ.length+j) (zwa hj) (by rw[cells_one hv1]; rfl) hle (by rw[cells_one hv1]; simp[hv1]) ?_
 clear hO
 intro H hO
 replace hO:=hO.set_r
 rw[cells_one hv1] at hO
 have hs:Rg 1 n f (es++[[v]]) (cs.take (((f+es.length) % n) * 1)++([v]++cs.drop (((f+es.length) % n) * 1+1))):=h.send hlt rfl
 generalize cs.take (((f+es.length) % n) * 1)++([v]++cs.drop (((f+es.length) % n) * 1+1))=c2 at *
 have hi2:(L.set j (q,(⟨c2,true⟩:Blk)))[i]?=_:=(List.getElem?_set_ne (by omega:j≠i)).trans hi
 refine zaa zca ?_
 refine zaa zba ?_
 refine ld hO i hi2 (v:=int es.length) rfl ?_
 refine zaa (zCi (b:=1) (by omega)) ?_
 refine zaa zca ?_
 refine zaa zba ?_
 refine s1 hO i hi2 rfl (by simp[rgC]) ?_
 clear hO
 intro H hO
 exact hyes hlt H c2 hs hO
noncomputable def zeJ:List (List Value)→Value
 | []=>.nilIface
 | el::_=>nth el 0
theorem zqz(hO:St H (Γ++L))(hi:L[i]?=some (r,⟨rgC q n 1 f es.length,true⟩))(hj:L[j]?=some (q,⟨cs,true⟩))(h:Rg 1 n f es cs)
  (hk:K (.tuple [zeJ es,.bool (zdJ es)].toArray) H):wCall P zvc [ptr r 0] H K:=by
 apply zng; unfold zve
 have h16:=h.n16
 refine zaa zca ?_
 refine zaa zba ?_
 refine ld hO i hi (v:=int es.length) rfl ?_
 refine zaa zUa ?_
 cases es with
 | nil=>
  refine zNb rfl ?_
  exact hk
 | cons el es=>
  refine zqc (by simp; omega) ?_
  have h2:=h.wl el (by simp)
  have hf:=h.fl
  obtain⟨a,rfl⟩:=one1 h2
  refine zaa zca ?_
  refine zaa zba ?_
  refine ld hO i hi (v:=sl q 0 n 3) rfl ?_
  refine zaa zca ?_
  refine zaa zba ?_
  refine ld hO i hi (v:=int f) rfl ?_
  refine zaa (zqb (by omega) (by omega)) ?_
  have hh:=h.head
  have h3:cs[0+((f:Nat):Int).toNat * 1]?=some a:=by
   have e:=congrArg (fun l=>l[0]?) hh
   simp only[List.getElem?_take,List.getElem?_drop] at e
   simpa using e
  refine ld hO j hj h3 ?_
  exact hk
set_option maxHeartbeats 1000000 in
theorem zrz(hO:St H (Γ++L))(hi:L[i]?=some (r,⟨rgC q n 1 f es.length,true⟩))(hj:L[j]?=some (q,⟨cs,true⟩))(hij:i≠j)(h:Rg 1 n f es cs)
  (hno:es=[]→K (.tuple [.nilIface,.bool false].toArray) H)
  (hyes:∀ a er,es=[a]::er→∀ H' cs',Rg 1 n ((f+1) % n) er cs'→St H' (Γ++((L.set j (q,⟨cs',true⟩)).set i (r,⟨rgC q n 1 ((f+1) % n) er.length,true⟩)))→K (.tuple [a,.bool true].toArray) H') :
  wCall P zuc [ptr r 0] H K:=by
 apply zkg; unfold zse
 have h16:=h.n16
 have hf:=h.fl
 have hil:=(List.getElem?_eq_some_iff.1 hi).1
 have hjl:=(List.getElem?_eq_some_iff.1 hj).1
 refine zqz hO hi hj h ?_
 refine zaa rfl ?_
 refine zaa rfl ?_
 cases es with
 | nil=>
  refine zDb rfl ?_
  exact hno rfl
 | cons el es=>
  have hkl:=h.kl
  rw[List.length_cons] at hkl
  obtain⟨a,rfl⟩:=one1 (h.wl el (by simp))
  refine zvd rfl ?_
  refine zaa zca ?_
  refine zaa zba ?_
  refine ld hO i hi (v:=sl q 0 n 3) rfl ?_
  refine zaa zca ?_
  refine zaa zba ?_
  refine ld hO i hi (v:=int f) rfl ?_
  refine zaa (zqb (by omega) (by omega)) ?_
  rw[show 0+((f:Nat):Int).toNat * 1=f * 1 by rw[Int.toNat_natCast,Nat.zero_add]]
  have hle:f * 1+1≤cs.length:=by rw[h.len]; omega
  refine zed hO (Γ.length+j) (zwa hj) (by rfl) hle (by rfl) ?_
  clear hO
  intro H hO
  replace hO:=hO.set_r
  have hs:Rg 1 n ((f+1) % n) es (cs.take (f * 1)++(zza .nilIface++cs.drop (f * 1+1))):=h.recv rfl
  generalize cs.take (f * 1)++(zza .nilIface++cs.drop (f * 1+1))=c2 at *
  have hi2:(L.set j (q,(⟨c2,true⟩:Blk)))[i]?=_:=(List.getElem?_set_ne (by omega:j≠i)).trans hi
  refine zdq (j:=1) hO hi2 hf h16 (by omega) ?_
  refine zaa zca ?_
  refine zaa zba ?_
  refine s1 hO i hi2 rfl (by simp[rgC]) ?_
  clear hO
  intro H hO
  have hi3:((L.set j (q,(⟨c2,true⟩:Blk))).set i (r,⟨rgC q n 1 ((f+1) % n) (es.length+1),true⟩))[i]?=some (r,⟨rgC q n 1 ((f+1) % n) (es.length+1),true⟩):=List.getElem?_set_self (by rw[List.length_set]; exact hil)
  replace hO:St H (Γ++((L.set j (q,(⟨c2,true⟩:Blk))).set i (r,⟨rgC q n 1 ((f+1) % n) (es.length+1),true⟩))):=hO
  refine zaa zca ?_
  refine zaa zba ?_
  refine ld hO i hi3 (v:=int ((es.length+1:Nat):Int)) rfl ?_
  refine zaa (zBb (by omega) (by omega)) ?_
  refine zaa zca ?_
  refine zaa zba ?_
  refine s1 hO i hi3 rfl (by simp[rgC]) ?_
  clear hO hi3
  intro H hO
  rw[List.set_set] at hO
  replace hO:St H (Γ++((L.set j (q,(⟨c2,true⟩:Blk))).set i (r,⟨[sl q 0 n 3,int ((f+1) % n:Nat),int (((es.length+1:Nat):Int) - 1),.bool false],true⟩))):=hO
  rw[show (((es.length+1:Nat):Int) - 1)=es.length by omega] at hO
  exact hyes a es rfl H c2 hs hO
def zJa(x:Int):Nat:=(max 1 (min x 16)).toNat
theorem zmm(x:Int):1≤zJa x∧zJa x≤16∧((zJa x:Nat):Int)=max 1 (min x 16):=by unfold zJa; omega
theorem zxF{z:List Value}(n:Nat)(h1:1≤n)(h2:n≤16):Rg z.length n 0 [] (repl n z):=by
 exact⟨h1,h2,by omega,by simp,zOh n z,by simp,fun j h=>by simp at h⟩
theorem zmv{x:Int}(hO:St H (Γ++L))(hk:∀ H' q r cs,Rg 2 (zJa x) 0 [] cs→St H' (Γ++(L++[(q,⟨cs,true⟩),(r,⟨rgC q (zJa x) 2 0 0,true⟩)]))→K (ptr r 0) H'):wCall P zac [int x] H K:=by
 apply zbj; unfold zIg
 obtain⟨r1,r2,r3⟩:=zmm x
 refine zva zZA ?_
 refine zva zkG ?_
 rw[← r3]
 rw[show (zXc P 78).f (int (zJa x:Nat)) (int (zJa x:Nat)) H=zel 2 32 [int 0,zqa] (int (zJa x:Nat)) (int (zJa x:Nat)) H from by kernel_rfl]
 refine zbB hO (by omega) (by omega) ?_
 clear hO
 intro q H hO
 refine zaa (show _=some (agg [sl q 0 (zJa x) 5,int 0,int 0,.bool false]) from by kernel_rfl) ?_
 refine zeb hO ?_
 clear hO
 intro r H hO
 refine hk H q r _ (zxF (z:=[int 0,zqa]) _ r1 r2) ?_
 rw[List.append_assoc,List.append_assoc] at hO
 exact hO
theorem znm{x:Int}(hO:St H (Γ++L))(hk:∀ H' q r cs,Rg 1 (zJa x) 0 [] cs→St H' (Γ++(L++[(q,⟨cs,true⟩),(r,⟨rgC q (zJa x) 1 0 0,true⟩)]))→K (ptr r 0) H'):wCall P zlb [int x] H K:=by
 apply zVj; unfold zoh
 obtain⟨r1,r2,r3⟩:=zmm x
 refine zva zZA ?_
 refine zva zkG ?_
 rw[← r3]
 rw[show (zXc P 90).f (int (zJa x:Nat)) (int (zJa x:Nat)) H=zel 1 16 [.nilIface] (int (zJa x:Nat)) (int (zJa x:Nat)) H from by kernel_rfl]
 refine zbB hO (by omega) (by omega) ?_
 clear hO
 intro q H hO
 refine zaa (show _=some (agg [sl q 0 (zJa x) 3,int 0,int 0,.bool false]) from by kernel_rfl) ?_
 refine zeb hO ?_
 clear hO
 intro r H hO
 refine hk H q r _ (zxF (z:=[.nilIface]) _ r1 r2) ?_
 rw[List.append_assoc,List.append_assoc] at hO
 exact hO
end J
set_option maxRecDepth 100000
namespace J
open Go Go.Ab
variable{H:Heap}{Γ Γ0 Γ2 Δ G L:List (Nat × Blk)}{K:VH}{v w x cv dv:Value}{xs ys zs bs b key ms:List Int}{j p q r o n k f wd:Nat}{e i:Int}{cs cs' c1:List Value}{l:List UInt8}{m:Mf}{t u:Tm}{es:List (List Value)}{el:List Value}
def zig(m:Mf)(i:Int):Int × Int:=if ¬ zGa m∨i < 0∨i ≥ m.cks.length then (0,0) else (i * m.ck,min m.ck (m.sz - i * m.ck))
theorem znv(hr:zGa m)(h0:0≤i)(h1:i < m.cks.length):0≤i * m.ck∧i * m.ck≤65536∧(i=(m.cks.length:Int) - 1→m.sz - i * m.ck≤m.ck∧0 < m.sz - i * m.ck)∧(i≠(m.cks.length:Int) - 1→m.ck≤m.sz - i * m.ck):=by
 obtain⟨_,_,_,s1,s2,k1,k2,_,hc,hn⟩:=hr
 unfold cnt at hc
 rw[if_neg (by omega)] at hc
 have hd:=Int.mul_ediv_add_emod (m.sz - 1) m.ck
 have hm1:=Int.emod_nonneg (m.sz - 1) (show m.ck≠0 by omega)
 have hm2:=Int.emod_lt_of_pos (m.sz - 1) (show 0 < m.ck by omega)
 have hdn:0≤(m.sz - 1) / m.ck:=Int.ediv_nonneg (by omega) (by omega)
 generalize (m.sz - 1) / m.ck=d at *
 generalize (m.sz - 1) % m.ck=e at *
 have hmul:∀ a c:Int,0≤a→a≤c→a * m.ck≤c * m.ck:=fun a c _ h=>Int.mul_le_mul_of_nonneg_right h (by omega)
 have e1:m.ck * d=d * m.ck:=Int.mul_comm _ _
 have b1:=hmul 0 i (by omega) h0
 have b2:=hmul i d h0 (by omega)
 refine⟨by omega,by omega,fun h=>?_,fun h=>?_⟩
 ·have:i=d:=by omega
  subst this
  omega
 ·have b3:=hmul (i+1) d (by omega) (by omega)
  rw[Int.add_mul,Int.one_mul] at b3
  omega
theorem zov{t:TypeId}{c:Bool}{a b:Int}(h1:-9223372036854775808≤a * b)(h2:a * b≤9223372036854775807):(zpa P .mul t c).f (int a) (int b)=some (int (a * b)):=by
 rw[zyc _ _ rfl]
 show some (Value.int .i64 (zxc .i64 (a * b)))=_
 rw[ztn h1 h2]
set_option maxHeartbeats 2000000 in
theorem zrC(ok:m.Ok)(hc:RdH Γ cv m.cks)(hO:St H Γ)(hk:∀ H',St H' Γ→K (.tuple [int (zig m i).1,int (zig m i).2].toArray) H'):wCall P zWf [agg (mfC m cv),int i] H K:=by
 apply zao; unfold zKl
 have h36:=zIe (cv:=cv) ok.dl
 rw[zye]
 refine nw hO.z ?_
 clear hO
 intro p1 H hO
 replace hO:St H (Γ++[(p1,⟨mfC m cv,true⟩)]):=hO
 refine zxa (fun l' H'=>l'=[int i,ptr p1 0,.bool (decide (¬ zGa m∨i < 0∨i ≥ m.cks.length))]∧St H' (Γ++[(p1,⟨mfC m cv,true⟩)])) ?_ ?_
 ·refine lw hO 0 rfl (zra ok.dl) (by omega) ?_
  refine zNj ok hc.app hO ?_
  clear hO
  intro H hO
  refine zaa zGc ?_
  by_cases hr:zGa m
  ·rw[decide_eq_true hr]
   refine zDb rfl ?_
   refine zaa zMa ?_
   refine zaa zwb ?_
   refine zma (fun h=>?_) (fun h=>?_)
   ·refine zaa (zjb h) ?_
    exact⟨by simp[h],hO⟩
   ·refine zaa zba ?_
    refine ld hO 0 rfl h36 ?_
    refine zva hc.lenSl ?_
    refine zaa zSf ?_
    refine zaa (zWa h) ?_
    exact⟨by simp[h,hr],hO⟩
  ·rw[decide_eq_false hr]
   refine zvd rfl ?_
   refine zaa zUc ?_
   refine zaa zUc ?_
   exact⟨by simp[hr],hO⟩
 clear hO
 rintro l' H ⟨rfl,hO⟩
 try simp only[zia,zja]
 unfold zig at hk
 refine zma (fun h=>?_) (fun h=>?_)
 ·rw[if_pos h] at hk
  exact hk H hO.left
 ·rw[if_neg h] at hk
  have hr:zGa m:=Classical.byContradiction fun h1=>h (.inl h1)
  obtain⟨s1,s2,s3,s4⟩:=znv (i:=i) hr (by omega) (by omega)
  have hr':=hr
  obtain⟨_,_,_,z1,z2,k1,k2,_⟩:=hr'
  refine zaa zba ?_
  refine ld hO 0 rfl (v:=int m.ck) rfl ?_
  refine zaa (zov (by omega) (by omega)) ?_
  refine zaa zba ?_
  refine ld hO 0 rfl (v:=int m.ck) rfl ?_
  refine zaa zba ?_
  refine ld hO 0 rfl (v:=int m.sz) rfl ?_
  refine zaa (zBb (by omega) (by omega)) ?_
  refine zva zZA ?_
  exact hk H hO.left
set_option maxHeartbeats 2000000 in
theorem zeq(ok:m.Ok)(hc:RdH Γ cv m.cks)(hO:St H Γ)(hk:∀ H',St H' Γ→K (.tuple [int (zig m i).1,int (zig m i).2].toArray) H'):wCall P zQi [agg (mfC m cv),int i] H K:=by
 apply zFs; unfold zlr
 have h36:=zIe (cv:=cv) ok.dl
 rw[zye]
 refine nw hO.z ?_
 clear hO
 intro p1 H hO
 replace hO:St H (Γ++[(p1,⟨mfC m cv,true⟩)]):=hO
 refine zxa (fun l' H'=>l'=[int i,ptr p1 0,.bool (decide (¬ zGa m∨i < 0∨i ≥ m.cks.length))]∧St H' (Γ++[(p1,⟨mfC m cv,true⟩)])) ?_ ?_
 ·refine lw hO 0 rfl (zra ok.dl) (by omega) ?_
  refine zWc ok hc.app hO ?_
  clear hO
  intro H hO
  refine zaa zGc ?_
  by_cases hr:zGa m
  ·rw[decide_eq_true hr]
   refine zDb rfl ?_
   refine zaa zMa ?_
   refine zaa zwb ?_
   refine zma (fun h=>?_) (fun h=>?_)
   ·refine zaa (zjb h) ?_
    exact⟨by simp[h],hO⟩
   ·refine zaa zba ?_
    refine ld hO 0 rfl h36 ?_
    refine zva hc.lenSl ?_
    refine zaa zSf ?_
    refine zaa (zWa h) ?_
    exact⟨by simp[h,hr],hO⟩
  ·rw[decide_eq_false hr]
   refine zvd rfl ?_
   refine zaa zUc ?_
   refine zaa zUc ?_
   exact⟨by simp[hr],hO⟩
 clear hO
 rintro l' H ⟨rfl,hO⟩
 try simp only[zia,zja]
 unfold zig at hk
 refine zma (fun h=>?_) (fun h=>?_)
 ·rw[if_pos h] at hk
  exact hk H hO.left
 ·rw[if_neg h] at hk
  have hr:zGa m:=Classical.byContradiction fun h1=>h (.inl h1)
  obtain⟨s1,s2,s3,s4⟩:=znv (i:=i) hr (by omega) (by omega)
  have hr':=hr
  obtain⟨_,_,_,z1,z2,k1,k2,_,_,hn⟩:=hr'
  refine zaa zba ?_
  refine ld hO 0 rfl h36 ?_
  refine zva hc.lenSl ?_
  refine zaa (zBb (by omega) (by omega)) ?_
  refine zaa zUa ?_
  refine zma (fun h=>?_) (fun h=>?_)
  ·obtain⟨t1,t2⟩:=s3 h
   refine zaa zba ?_
   refine ld hO 0 rfl (v:=int m.ck) rfl ?_
   refine zaa (zov (by omega) (by omega)) ?_
   refine zaa zba ?_
   refine ld hO 0 rfl (v:=int m.sz) rfl ?_
   refine zaa zba ?_
   refine ld hO 0 rfl (v:=int m.ck) rfl ?_
   refine zaa (zov (by omega) (by omega)) ?_
   refine zaa (zBb (by omega) (by omega)) ?_
   have:=hk H hO.left
   rw[show min m.ck (m.sz - i * m.ck)=m.sz - i * m.ck by omega] at this
   exact this
  ·have t1:=s4 h
   refine zaa zba ?_
   refine ld hO 0 rfl (v:=int m.ck) rfl ?_
   refine zaa (zov (by omega) (by omega)) ?_
   refine zaa zba ?_
   refine ld hO 0 rfl (v:=int m.ck) rfl ?_
   have:=hk H hO.left
   rw[show min m.ck (m.sz - i * m.ck)=m.ck by omega] at this
   exact this
end J
set_option maxRecDepth 100000
namespace J
open Go Go.Ab
variable{H:Heap}{Γ Γ0 Γ2 Δ G L:List (Nat × Blk)}{K:VH}{v w x cv dv:Value}{xs ys zs bs b key ms:List Int}{j p q r o n k f wd pd st want:Nat}{e i:Int}{cs cs' c1:List Value}{l:List UInt8}{m:Mf}{t u:Tm}{es:List (List Value)}{el:List Value}{cks:List (List Int)}
theorem zGE:(zpa P .eql 50 true).f zqa (.slice none 0 0)=some (.bool true):=by kernel_rfl
theorem zhH(p o n c:Nat):(zpa P .eql 50 true).f (sl p o n c) (.slice none 0 0)=some (.bool false):=by kernel_rfl
theorem zAL(H:Heap):(zla P 50 0).f [] H=some (sl H.next 0 0 65,H.push []):=by kernel_rfl
theorem zRw(h:∀ x ∈ cks,x.length=32):(hsC cks).length=cks.length * 32:=by
 induction cks with
 | nil=>rfl
 | cons a cks ih=>
  have h1:=ih fun x hx=>h x (List.mem_cons_of_mem _ hx)
  have h2:=h a List.mem_cons_self
  show (by8 a++hsC cks).length=_
  rw[List.length_append,h1,zii,h2,List.length_cons,Nat.succ_mul]; omega
theorem ziH:(hsC cks).all oneCell=true:=by
 induction cks with
 | nil=>rfl
 | cons a cks ih=>
  show (by8 a++hsC cks).all oneCell=true
  rw[List.all_append,ih]
  simp[oneCell]
theorem zfq(hc:RdH Γ cv cks)(h32:∀ x ∈ cks,x.length=32)(hn:cks.length≤10000)(hO:St H Γ)
  (hk:∀ H' v',St H' (Γ++zKa v' (hsC cks))→RdH (zKa v' (hsC cks)) v' cks→K v' H'):wCall P zkb [cv] H K:=by
 apply zwe; unfold zHc
 have hl:=zRw h32
 rcases hc with⟨rfl,rfl⟩|⟨p,c,j,w,rfl,hj⟩
 ·refine zaa zGE ?_
  refine zvd rfl ?_
  exact hk H zqa hO.z RdH.nil
 ·refine zaa (zhH _ _ _ _) ?_
  refine zDb rfl ?_
  refine zDa hO (zAL _) ?_
  clear hO
  intro q H hO
  by_cases h0:cks=[]
  ·subst h0
   refine zva (show _=some (sl q 0 0 65,H) from rfl) ?_
   exact hk H (sl q 0 0 65) hO (.inr ⟨q,65,0,true,rfl,rfl⟩)
  ·have hpos:0 < cks.length:=List.length_pos_iff.2 h0
   have hg:H.get p=some ⟨hsC cks,w⟩:=hO.at j (zCa hj) (.inr fun e=>by
    have e:hsC cks=[]:=e
    rw[e] at hl; simp at hl; omega)
   have he:ztg H 32 cks.length (sl p 0 cks.length c)=some (hsC cks):=by
    rw[zHj hg (by show 0+cks.length * 32≤(hsC cks).length; omega)]
    show some (((hsC cks).drop 0).take (cks.length * 32))=_
    rw[List.drop_zero,List.take_of_length_le (by omega)]
   have hO2:St H (Γ++zKa (sl q 0 0 65) []):=hO
   refine zIj (n:=0) (m:=cks.length) (cs:=[]) (new:=hsC cks) hO2 (.inr ⟨q,.inr rfl,rfl⟩) (by omega) rfl he hpos (by omega) (by omega) ziH hl ?_
   clear hO hO2 he hg
   intro q2 H hO _
   rw[Nat.zero_add]
   exact hk H (sl q2 0 cks.length 64) hO (.inr ⟨q2,64,0,true,rfl,rfl⟩)
def stC(m:Mf)(cv:Value)(pd want:Nat):List Value:=mfC m cv++[ptr pd 0,int want]
theorem zBL(hd:m.dg.length=32)(a:Option Addr)(n c:Nat):(zAa P 144).f [(0,agg (mfC m (.slice a n c))),(1,ptr pd 0)]=some (agg (stC m (.slice a n c) pd 0)):=by
 obtain⟨pr,ver,sz,ck,dg,cks⟩:=m
 have hd:dg.length=32:=hd
 match dg,hd with
 | [a0,a1,a2,a3,a4,a5,a6,a7,a8,a9,a10,a11,a12,a13,a14,a15,a16,a17,a18,a19,a20,a21,a22,a23,a24,a25,a26,a27,a28,a29,a30,a31],_=>show _=_; kernel_rfl
theorem zSw(ok:m.Ok)(hc:RdH Γ cv m.cks)(hr:zGa m)(hO:St H Γ)
  (hk:∀ H' cv' pd L st,Dg pd [] L→RdH (zKa cv' (hsC m.cks)) cv' m.cks→St H' ((Γ++zKa cv' (hsC m.cks))++(L++[(st,⟨stC m cv' pd 0,true⟩)]))→K (.tuple [ptr st 0,int 0].toArray) H'):wCall P zRk [agg (mfC m cv)] H K:=by
 apply zwu; unfold zvu
 have h36:=zIe (cv:=cv) ok.dl
 have hml:=zra (cv:=cv) ok.dl
 rw[zye]
 refine nw hO.z ?_
 clear hO
 intro p1 H hO
 replace hO:St H (Γ++[(p1,⟨mfC m cv,true⟩)]):=hO
 refine lw hO 0 rfl hml (by omega) ?_
 refine zNj ok hc.app hO ?_
 clear hO
 intro H hO
 rw[decide_eq_true hr]
 refine zaa zGc ?_
 refine zDb rfl ?_
 refine zaa zba ?_
 refine ld hO 0 rfl h36 ?_
 refine zfq hc.app ok.cl ok.n hO ?_
 clear hO
 intro H v1 hO h1
 refine zaa zba ?_
 refine zNa hO (Γ.length+0) (zCa (zwa rfl)) h1.one (by rw[hml]; omega) (cs':=mfC m v1) (by
  unfold mfC
  rw[show (str m.pr::zsb .u64 m.ver::int m.sz::int m.ck::(by8 m.dg++[cv]))=(str m.pr::zsb .u64 m.ver::int m.sz::int m.ck::by8 m.dg)++[cv] from rfl,List.set_append_right _ _ (by simp[ok.dl])]
  simp[ok.dl]) ?_
 clear hO
 intro H hO
 rw[List.set_append_left _ _ (by simp),Go.Ab.set_r] at hO
 replace hO:St H ((Γ++[(p1,⟨mfC m v1,true⟩)])++zKa v1 (hsC m.cks)):=hO
 refine zFa hO (Γ.length+0) (zCa (zwa rfl)) (zra ok.dl) (by omega) ?_
 have hO1:=hO
 refine zyo hO ?_
 clear hO
 intro H2 pd hO
 refine⟨zcb hO1 (Γ.length+0) (zCa (zwa rfl)) hO (Γ.length+0) (zCa (zCa (zwa rfl))) (zbe h1.simple),?_⟩
 obtain⟨a1,n1,c1,rfl⟩:=h1.shape
 refine zaa (zBL ok.dl _ _ _) ?_
 rw[ztc]
 refine zeb hO ?_
 clear hO hO1
 intro st H hO
 refine hk H _ pd (DG pd (dSt []) zqa ([]:List Int).length []) st ⟨_,_,rfl,.inl ⟨rfl,rfl,rfl⟩⟩ h1 ?_
 exact hO.sub (by
  simp only[List.append_assoc]
  exact List.Sublist.append (List.Sublist.refl Γ) (List.sublist_append_right [(p1,_)] _))
end J
set_option maxRecDepth 100000
namespace J
open Go Go.Ab
variable{H:Heap}{Γ Γ0 Γ2 Δ G L:List (Nat × Blk)}{K:VH}{v w x cv dv:Value}{xs ys zs bs b key ms:List Int}{i j p q r o n k f wd pd st want:Nat}{e:Int}{cs cs' c1:List Value}{l:List UInt8}{m:Mf}{t u:Tm}{es:List (List Value)}{el:List Value}{cks:List (List Int)}
theorem zdy(hd:m.dg.length=32):(stC m cv pd want)[0+38]?=some (int want):=by
 unfold stC
 rw[List.getElem?_append_right (by rw[zra hd]; omega),zra hd]; rfl
theorem zyF(hd:m.dg.length=32):(stC m cv pd want)[0+37]?=some (ptr pd 0):=by
 unfold stC
 rw[List.getElem?_append_right (by rw[zra hd]; omega),zra hd]; rfl
theorem zzF(hd:m.dg.length=32):(stC m cv pd want)[0+0+36]?=some cv:=by
 unfold stC
 rw[List.getElem?_append_left (by rw[zra hd]; omega)]
 exact zIe hd
theorem zvK(hd:m.dg.length=32):((stC m cv pd want).drop (0+0)).take 37=mfC m cv:=by
 unfold stC
 rw[List.drop_zero]
 exact List.take_left' (zra hd)
theorem zfJ(hd:m.dg.length=32):((stC m cv pd want).drop (0+0+4)).take 32=by8 m.dg:=by
 unfold stC
 rw[List.drop_append_of_le_length (by rw[zra hd]; omega),List.take_append_of_le_length (by rw[List.length_drop,zra hd]; omega)]
 exact zYu hd
theorem zjH(hd:m.dg.length=32):(stC m cv pd want).set (0+38) (int ((want+1:Nat):Int))=stC m cv pd (want+1):=by
 unfold stC
 rw[List.set_append_right _ _ (by rw[zra hd]; omega),zra hd]; rfl
theorem zkH(hd:m.dg.length=32):(stC m cv pd want).length=39:=by
 unfold stC
 rw[List.length_append,zra hd]; rfl
theorem zNr(hd:m.dg.length=32)(h:zab cv=true):(stC m cv pd want).all zab=true:=by
 unfold stC
 rw[List.all_append,zbe h]; rfl
theorem zOr:(hsC cks).all zab=true:=by
 induction cks with
 | nil=>rfl
 | cons a cks ih=>
  show (by8 a++hsC cks).all zab=true
  rw[List.all_append,ih,zae]; rfl
theorem zey{H':Heap}{bk:Blk}{lo:Nat}(hO:St H Γ)(hi:Γ[i]?=some (p,bk))(n:Nat):znq (zBa [ptr p lo]) H.next n:=by
 have h:=hO.lt (p,bk) (List.mem_of_getElem? hi)
 show zzj _ [p]=true
 rw[zpb]
 simp only[List.all_cons,List.all_nil,Bool.and_true]
 rw[blt_eq,decide_eq_true (show p < H.next from h)]
 rfl
theorem zin(hd:m.dg.length=32)(hc:RdH Γ cv m.cks)(hO:St H Γ)(hi:Γ[i]?=some (st,⟨stC m cv pd want,true⟩))(hk:K (.bool (decide (want=m.cks.length))) H):wCall P zhc [ptr st 0] H K:=by
 apply zYj; unfold zrh
 refine zaa zca ?_
 refine zaa zba ?_
 refine zoa hO i hi (zdy hd) ?_
 refine zaa zca ?_
 refine zaa zba ?_
 refine zaa zba ?_
 refine zoa hO i hi (zzF hd) ?_
 refine zva hc.lenSl ?_
 refine zaa zUa ?_
 rw[decide_eq_decide.2 (show ((want:Int)=(m.cks.length:Int))↔want=m.cks.length by omega)]
 exact hk
theorem zsz(hd:m.dg.length=32)(hO:St H Γ)(hi:Γ[i]?=some (st,⟨stC m cv pd want,true⟩))(hk:K (int want) H):wCall P zPd [ptr st 0] H K:=by
 apply zZj; unfold zsh
 refine zaa zca ?_
 refine zaa zba ?_
 refine zoa hO i hi (zdy hd) ?_
 exact hk
theorem zTw(ok:m.Ok)(hc:RdH Γ cv m.cks)(hO:St H (Γ++L))(hi:Γ[i]?=some (st,⟨stC m cv pd want,true⟩))(hdg:Dg pd xs L)(hx:By xs)(hl:xs.length≤1000000)
  (hk:∀ H',St H' (Γ++L)→K (.bool (decide (want=m.cks.length∧sha xs=m.dg))) H'):wCall P zzd [ptr st 0] H K:=by
 apply zoj; unfold zNg
 refine zin ok.dl hc.app hO (zCa hi) ?_
 refine zma (fun h=>?_) (fun h=>?_)
 ·refine zaa zca ?_
  refine zaa zba ?_
  refine zoa hO i (zCa hi) (zyF ok.dl) ?_
  have hO1:=hO
  refine zdm hO hdg hx (by omega) ?_
  clear hO
  intro H2 hO
  refine zaa zca ?_
  refine zaa zba ?_
  refine zaa zba ?_
  refine zua hO i (zCa hi) (zfJ ok.dl) (by rw[zii]; exact ok.dl) (by omega) ?_
  refine⟨zcb hO1 i (zCa hi) hO i (zCa hi) (zNr ok.dl hc.simple),?_⟩
  refine zaa (eqH _ zFb ok.dl) ?_
  refine zaa (zjb h) ?_
  have:=hk H2 hO
  rw[decide_eq_decide.2 (show (want=m.cks.length∧sha xs=m.dg)↔sha xs=m.dg from⟨fun h=>h.2,fun h2=>⟨h,h2⟩⟩)] at this
  exact this
 ·refine zaa (zWa h) ?_
  have:=hk H hO
  rw[decide_eq_false (fun h2=>h h2.1)] at this
  exact this
set_option maxHeartbeats 4000000 in
theorem ztz(ok:m.Ok)(hr:zGa m)(hc:RdH Γ cv m.cks)(hO:St H (Γ++L))(hi:Γ[i]?=some (st,⟨stC m cv pd want,true⟩))(hdg:Dg pd xs L)(hx:By xs)(hl:xs.length≤1000000)
  (hw:RdB Γ w ys) (hy:By ys) (hyl:ys.length≤1000000) (hwant:want < m.cks.length)
  (hno:¬ ((ys.length:Int)=(zig m want).2∧sha ys=m.cks[want])→∀ H',St H' (Γ++L)→K (int 152) H')
  (hyes:((ys.length:Int)=(zig m want).2∧sha ys=m.cks[want])→∀ H' L',Dg pd (xs++ys) L'→St H' (Γ.set i (st,⟨stC m cv pd (want+1),true⟩)++L')→K (int 0) H') :
  wCall P zQd [ptr st 0,int want,w] H K:=by
 apply zak; unfold zth
 have hil:=(List.getElem?_eq_some_iff.1 hi).1
 refine zxa (fun l' H'=>l'=[ptr st 0,int want,w]∧H=H') ?_ ?_
 ·refine zin ok.dl hc.app hO (zCa hi) ?_
  refine zqc (by omega) ?_
  refine zaa zca ?_
  refine zaa zba ?_
  refine zoa hO i (zCa hi) (zdy ok.dl) ?_
  refine zaa zQa ?_
  refine zaa (zWa (by omega)) ?_
  refine zqc (fun h=>h rfl) ?_
  exact⟨rfl,rfl⟩
 rintro l' H' ⟨rfl,rfl⟩
 try simp only[zia,zja]
 refine zxa (fun l' H'=>l'=[ptr st 0,w]∧St H' (Γ++L)∧((ys.length:Int)=(zig m want).2∧sha ys=m.cks[want])) ?_ ?_
 ·refine zaa zca ?_
  refine zaa zba ?_
  refine zua hO i (zCa hi) (zvK ok.dl) (zra ok.dl) (by omega) ?_
  refine zrC ok hc.app hO ?_
  clear hO
  intro H hO
  refine zaa rfl ?_
  refine zaa rfl ?_
  refine zva hw.lenSl ?_
  refine zaa zQa ?_
  refine zma (fun h=>?_) (fun h=>?_)
  ·refine zaa (zjb h) ?_
   refine zvd rfl ?_
   exact hno (fun h2=>h h2.1) H hO
  ·obtain⟨a,n',c',rfl⟩:=hw.shape
   refine zDa hO (znL _ _ _ _) ?_
   have hO0:=hO
   clear hO
   intro q H1 hO
   have hO1:=hO
   refine zRu hO (zwa (Γ:=Γ++L) (k:=0) rfl) hw.app.app hy (by omega) ?_
   clear hO
   intro H2 hO
   refine zaa zca ?_
   refine zaa zba ?_
   refine zaa zba ?_
   refine zoa hO i (zCa (zCa hi)) (zzF ok.dl) ?_
   refine⟨zcb hO1 i (zCa (zCa hi)) hO i (zCa (zCa hi)) (zNr ok.dl hc.simple),zey (H':=H) hO0 (zCa hi) _,?_⟩
   obtain⟨pc,cc,jc,wc,rfl,hjc⟩:=hc.pos (by omega)
   refine zaa (zqb (by omega) (by omega)) ?_
   refine zua hO jc (zCa (zCa hjc)) (zUB ok.cl (y:=want) hwant) (by rw[zii]; exact ok.cl _ (List.getElem_mem hwant)) (by omega) ?_
   have hne:(⟨hsC m.cks,wc⟩:Blk).wr=true∨(⟨hsC m.cks,wc⟩:Blk).cells≠[]:=.inr fun e=>by
    have e:hsC m.cks=[]:=e
    have:=zRw ok.cl
    rw[e] at this; simp at this; omega
   refine⟨zcb hO1 jc (zCa (zCa hjc)) hO jc (zCa (zCa hjc)) zOr hne,zey (H':=H) hO0 (zCa hjc) _,?_⟩
   refine zaa (neH _ zFb (ok.cl _ (List.getElem_mem hwant))) ?_
   refine zaa (zWa h) ?_
   refine zma (fun h2=>?_) (fun h2=>?_)
   ·exact hno (fun h3=>h2 h3.2) H2 hO.left
   ·exact⟨rfl,hO.left,by omega,Classical.not_not.1 h2⟩
 clear hO
 rintro l' H ⟨rfl,hO,hgood⟩
 try simp only[zia,zja]
 refine zaa zca ?_
 refine zaa zba ?_
 refine zoa hO i (zCa hi) (zyF ok.dl) ?_
 refine zKf hO hdg hw hx hy (by omega) (by omega) ?_
 clear hO
 intro H L' hO hdg'
 refine zaa zca ?_
 refine zaa zba ?_
 refine zoa hO i (zCa hi) (zdy ok.dl) ?_
 have hn:=ok.n
 refine zaa (zCi (b:=1) (by omega)) ?_
 refine zaa zca ?_
 refine zaa zba ?_
 refine zNa hO i (zCa hi) rfl (by rw[zkH ok.dl]; omega) (zjH ok.dl) ?_
 clear hO
 intro H hO
 rw[List.set_append_left _ _ hil] at hO
 exact hyes hgood H L' hdg' hO
end J
set_option maxRecDepth 100000
namespace J
open Go Go.Ab
variable{H:Heap}{Γ Γ0 Γ2 Δ G L:List (Nat × Blk)}{K:VH}{v w x cv dv:Value}{xs ys zs bs b key ms:List Int}{i j p q r o n k f wd pd st want:Nat}{e:Int}{cs cs' c1:List Value}{l:List UInt8}{m:Mf}{bv:Value}{bcs:List Value}{t u:Tm}{es:List (List Value)}{el:List Value}{cks:List (List Int)}
def rsC(m:Mf)(cv bv:Value)(want:Nat):List Value:=mfC m cv++[bv,int want]
theorem zfy(hd:m.dg.length=32):(rsC m cv bv want)[0+38]?=some (int want):=by
 unfold rsC
 rw[List.getElem?_append_right (by rw[zra hd]; omega),zra hd]; rfl
theorem zAF(hd:m.dg.length=32):(rsC m cv bv want)[0+37]?=some bv:=by
 unfold rsC
 rw[List.getElem?_append_right (by rw[zra hd]; omega),zra hd]; rfl
theorem zBF(hd:m.dg.length=32):(rsC m cv bv want)[0+0+36]?=some cv:=by
 unfold rsC
 rw[List.getElem?_append_left (by rw[zra hd]; omega)]
 exact zIe hd
theorem zgJ(hd:m.dg.length=32):((rsC m cv bv want).drop (0+0)).take 37=mfC m cv:=by
 unfold rsC
 rw[List.drop_zero]
 exact List.take_left' (zra hd)
theorem zhJ(hd:m.dg.length=32):((rsC m cv bv want).drop (0+0+4)).take 32=by8 m.dg:=by
 unfold rsC
 rw[List.drop_append_of_le_length (by rw[zra hd]; omega),List.take_append_of_le_length (by rw[List.length_drop,zra hd]; omega)]
 exact zYu hd
theorem zlH(hd:m.dg.length=32):(rsC m cv bv want).set (0+38) (int ((want+1:Nat):Int))=rsC m cv bv (want+1):=by
 unfold rsC
 rw[List.set_append_right _ _ (by rw[zra hd]; omega),zra hd]; rfl
theorem zHE(hd:m.dg.length=32):(rsC m cv bv want).set (0+37) v=rsC m cv v want:=by
 unfold rsC
 rw[List.set_append_right _ _ (by rw[zra hd]; omega),zra hd]; rfl
theorem zUw(hd:m.dg.length=32):(rsC m cv bv want).length=39:=by
 unfold rsC
 rw[List.length_append,zra hd]; rfl
theorem zPr(hd:m.dg.length=32)(h:zab cv=true)(hb:zab bv=true):(rsC m cv bv want).all zab=true:=by
 unfold rsC
 rw[List.all_append,zbe h]
 simp[hb]; rfl
theorem zjn(hd:m.dg.length=32)(hc:RdH Γ cv m.cks)(hO:St H Γ)(hi:Γ[i]?=some (st,⟨rsC m cv bv want,true⟩))(hk:K (.bool (decide (want=m.cks.length))) H):wCall P zgf [ptr st 0] H K:=by
 apply zNs; unfold ztr
 refine zaa zca ?_
 refine zaa zba ?_
 refine zoa hO i hi (zfy hd) ?_
 refine zaa zca ?_
 refine zaa zba ?_
 refine zaa zba ?_
 refine zoa hO i hi (zBF hd) ?_
 refine zva hc.lenSl ?_
 refine zaa zUa ?_
 rw[decide_eq_decide.2 (show ((want:Int)=(m.cks.length:Int))↔want=m.cks.length by omega)]
 exact hk
theorem zqt{v:Value}(h:OwnB v xs cs):zab v=true∧oneCell v=true:=by
 rcases h with⟨rfl,_⟩|⟨p,rfl|⟨rfl,_⟩,_⟩ <;> exact⟨rfl,rfl⟩
theorem zVw(ok:m.Ok)(hc:RdH Γ cv m.cks)(hO:St H (Γ++zKa bv bcs))(hi:Γ[i]?=some (st,⟨rsC m cv bv want,true⟩))(hv:OwnB bv xs bcs)(hx:By xs)(hl:xs.length≤1000000)
  (hk:∀ H',St H' (Γ++zKa bv bcs)→K (.bool (decide (want=m.cks.length∧sha xs=m.dg))) H'):wCall P zne [ptr st 0] H K:=by
 apply zDq; unfold zAp
 refine zjn ok.dl hc.app hO (zCa hi) ?_
 refine zma (fun h=>?_) (fun h=>?_)
 ·refine zaa zca ?_
  refine zaa zba ?_
  refine zoa hO i (zCa hi) (zAF ok.dl) ?_
  have hO1:=hO
  refine zgg hO hv.rd.app' hx (by omega) ?_
  clear hO
  intro H2 hO
  refine zaa zca ?_
  refine zaa zba ?_
  refine zaa zba ?_
  refine zua hO i (zCa hi) (zhJ ok.dl) (by rw[zii]; exact ok.dl) (by omega) ?_
  refine⟨zcb hO1 i (zCa hi) hO i (zCa hi) (zPr ok.dl hc.simple (zqt hv).1),?_⟩
  refine zaa (eqH _ zFb ok.dl) ?_
  refine zaa (zjb h) ?_
  have:=hk H2 hO
  rw[decide_eq_decide.2 (show (want=m.cks.length∧sha xs=m.dg)↔sha xs=m.dg from⟨fun h=>h.2,fun h2=>⟨h,h2⟩⟩)] at this
  exact this
 ·refine zaa (zWa h) ?_
  have:=hk H hO
  rw[decide_eq_false (fun h2=>h h2.1)] at this
  exact this
set_option maxHeartbeats 4000000 in
theorem zuz(ok:m.Ok)(hr:zGa m)(hc:RdH Γ cv m.cks)(hO:St H (Γ++zKa bv bcs))(hi:Γ[i]?=some (st,⟨rsC m cv bv want,true⟩))(hv:OwnB bv xs bcs)(hx:By xs)(hl:xs.length≤1000000)
  (hw:RdB Γ w ys) (hy:By ys) (hyl:ys.length≤1000000) (hwant:want < m.cks.length)
  (hno:¬ ((ys.length:Int)=(zig m want).2∧sha ys=m.cks[want])→∀ H',St H' (Γ++zKa bv bcs)→K (int 152) H')
  (hyes:((ys.length:Int)=(zig m want).2∧sha ys=m.cks[want])→∀ H' bv' bcs',OwnB bv' (xs++ys) bcs'→St H' (Γ.set i (st,⟨rsC m cv bv' (want+1),true⟩)++zKa bv' bcs')→K (int 0) H') :
  wCall P zTi [ptr st 0,int want,w] H K:=by
 apply zMs; unfold zsr
 have hil:=(List.getElem?_eq_some_iff.1 hi).1
 refine zxa (fun l' H'=>l'=[ptr st 0,int want,w]∧H=H') ?_ ?_
 ·refine zjn ok.dl hc.app hO (zCa hi) ?_
  refine zqc (by omega) ?_
  refine zaa zca ?_
  refine zaa zba ?_
  refine zoa hO i (zCa hi) (zfy ok.dl) ?_
  refine zaa zQa ?_
  refine zaa (zWa (by omega)) ?_
  refine zqc (fun h=>h rfl) ?_
  exact⟨rfl,rfl⟩
 rintro l' H' ⟨rfl,rfl⟩
 try simp only[zia,zja]
 refine zaa zca ?_
 refine zaa zba ?_
 refine zua hO i (zCa hi) (zgJ ok.dl) (zra ok.dl) (by omega) ?_
 refine zeq ok hc.app hO ?_
 clear hO
 intro H hO
 refine zaa rfl ?_
 refine zaa rfl ?_
 refine zxa (fun l' H'=>l'=[ptr st 0,w]∧St H' (Γ++zKa bv bcs)∧((ys.length:Int)=(zig m want).2∧sha ys=m.cks[want])) ?_ ?_
 ·refine zva hw.lenSl ?_
  refine zaa zQa ?_
  refine zma (fun h=>?_) (fun h=>?_)
  ·refine zaa (zjb h) ?_
   refine zvd rfl ?_
   exact hno (fun h2=>h h2.1) H hO
  ·have hO1:=hO
   refine zgg hO hw.app hy (by omega) ?_
   clear hO
   intro H2 hO
   refine zaa zca ?_
   refine zaa zba ?_
   refine zaa zba ?_
   refine zoa hO i (zCa hi) (zBF ok.dl) ?_
   refine⟨zcb hO1 i (zCa hi) hO i (zCa hi) (zPr ok.dl hc.simple (zqt hv).1),?_⟩
   obtain⟨pc,cc,jc,wc,rfl,hjc⟩:=hc.pos (by omega)
   refine zaa (zqb (by omega) (by omega)) ?_
   refine zua hO jc (zCa hjc) (zUB ok.cl (y:=want) hwant) (by rw[zii]; exact ok.cl _ (List.getElem_mem hwant)) (by omega) ?_
   have hne:(⟨hsC m.cks,wc⟩:Blk).wr=true∨(⟨hsC m.cks,wc⟩:Blk).cells≠[]:=.inr fun e=>by
    have e:hsC m.cks=[]:=e
    have:=zRw ok.cl
    rw[e] at this; simp at this; omega
   refine⟨zcb hO1 jc (zCa hjc) hO jc (zCa hjc) zOr hne,?_⟩
   refine zaa (neH _ zFb (ok.cl _ (List.getElem_mem hwant))) ?_
   refine zaa (zWa h) ?_
   refine zma (fun h2=>?_) (fun h2=>?_)
   ·exact hno (fun h3=>h2 h3.2) H2 hO
   ·exact⟨rfl,hO,by omega,Classical.not_not.1 h2⟩
 clear hO
 rintro l' H ⟨rfl,hO,hgood⟩
 try simp only[zia,zja]
 refine zaa zca ?_
 refine zaa zba ?_
 refine zoa hO i (zCa hi) (zAF ok.dl) ?_
 refine zEc hO hv hw (by omega) ?_
 clear hO
 intro H bv' bcs' hO hv'
 refine zaa zca ?_
 refine zaa zba ?_
 refine zNa hO i (zCa hi) (zqt hv').2 (by rw[zUw ok.dl]; omega) (zHE ok.dl) ?_
 clear hO
 intro H hO
 rw[List.set_append_left _ _ hil] at hO
 have hi2:(Γ.set i (st,(⟨rsC m cv bv' want,true⟩:Blk)))[i]?=some (st,⟨rsC m cv bv' want,true⟩):=List.getElem?_set_self hil
 refine zaa zca ?_
 refine zaa zba ?_
 refine zoa hO i (zCa hi2) (zfy ok.dl) ?_
 have hn:=ok.n
 refine zaa (zCi (b:=1) (by omega)) ?_
 refine zaa zca ?_
 refine zaa zba ?_
 refine zNa hO i (zCa hi2) rfl (by rw[zUw ok.dl]; omega) (zlH ok.dl) ?_
 clear hO hi2
 intro H hO
 rw[List.set_append_left _ _ (by rw[List.length_set]; exact hil),List.set_set] at hO
 exact hyes hgood H bv' bcs' hv' hO
end J
set_option maxRecDepth 100000
namespace J
open Go Go.Ab
variable{H:Heap}{Γ Γ0 Γ2 Δ G L S T L0:List (Nat × Blk)}{K:VH}{v w x cv dv kv sv sp:Value}{xs ys zs bs b key ms:List Int}{i j p q r o n k f wd pd st want c:Nat}{e er:Int}{cs cs' c1 ck:List Value}{l:List UInt8}{m sd:Mf}{t u:Tm}{es:List (List Value)}{el:List Value}{cks:List (List Int)}{dn:Bool}
inductive Sn where
 | again (a:Int)
 | go (n:Int) (m:Mf)
 | body (a:Int) (bs:List Int)
 | fin
def NtR(S:List (Nat × Blk)):Sn→List Value→Prop
 | .again a,el=>el=[.iface 103 (agg [int a])]
 | .go n m,el=>∃ cv,el=[.iface 105 (agg (int n::mfC m cv))]∧RdH S cv m.cks∧m.Ok
 | .body a bs,el=>∃ v,el=[.iface 106 (agg [int a,v])]∧RdB S v bs∧By bs
 | .fin,el=>el=[.iface 108 (agg [])]
def ToldR(S:List (Nat × Blk)):Sn→List Value→Prop
 | .again a,el=>el=int 1::int a::int 0::(mfC m0 zqa++[zqa])
 | .go n m,el=>∃ cv,el=int 2::int 0::int n::(mfC m cv++[zqa])∧RdH S cv m.cks∧m.Ok
 | .body a bs,el=>∃ v,el=int 3::int a::int 0::(mfC m0 zqa++[v])∧RdB S v bs∧By bs
 | .fin,el=>el=int 4::int 0::int 0::(mfC m0 zqa++[zqa])
def PcR(S:List (Nat × Blk))(p:Int × List Int)(el:List Value):Prop:=∃ v,el=[int p.1,v]∧RdB S v p.2∧By p.2∧(p.2≠[]→Stay S v)
structure Ring where
 q:Nat
 r:Nat
 n:Nat
 f:Nat
 cs:List Value
 es:List (List Value)
def ckC(kv:Value)(t:Tm)(r1 r2 r3:Nat)(sd:Mf)(sv sp:Value)(dn:Bool)(er:Int):List Value:=
 kv::str t.pr::zsb .u64 t.fl::int t.rm::ptr r1 0::ptr r2 0::ptr r3 0::(mfC sd sv++[sp,.bool dn,int er])
def mB(A B C:Ring)(c:Nat)(ck:List Value)(T:List (Nat × Blk)):List (Nat × Blk):=
 (A.q,⟨A.cs,true⟩)::(A.r,⟨rgC A.q A.n 2 A.f A.es.length,true⟩)::(B.q,⟨B.cs,true⟩)::(B.r,⟨rgC B.q B.n 1 B.f B.es.length,true⟩)::(C.q,⟨C.cs,true⟩)::(C.r,⟨rgC C.q C.n 1 C.f C.es.length,true⟩)::(c,⟨ck,true⟩)::T
variable{A B C:Ring}{r1 r2 r3:Nat}
theorem zsC(hd:sd.dg.length=32)(k:Nat):(ckC kv t r1 r2 r3 sd sv sp dn er)[0+(44+k)]?=[sp,Value.bool dn,int er][k]?:=by
 unfold ckC
 rw[show 0+(44+k)=(37+k)+7 by omega]
 show (mfC sd sv++[sp,Value.bool dn,int er])[37+k]?=_
 rw[List.getElem?_append_right (by rw[zra hd]; omega),zra hd]
 congr 1; omega
theorem zgq(hd:sd.dg.length=32):(ckC kv t r1 r2 r3 sd sv sp dn er)[0+44]?=some sp:=zsC hd 0
theorem zCF(hd:sd.dg.length=32):(ckC kv t r1 r2 r3 sd sv sp dn er)[0+45]?=some (.bool dn):=zsC hd 1
theorem zDF(hd:sd.dg.length=32):(ckC kv t r1 r2 r3 sd sv sp dn er)[0+46]?=some (int er):=zsC hd 2
theorem zhq(hd:sd.dg.length=32):(ckC kv t r1 r2 r3 sd sv sp dn er).length=47:=by
 unfold ckC
 simp[zra hd]
theorem ziq(hd:sd.dg.length=32)(k:Nat)(v:Value):(ckC kv t r1 r2 r3 sd sv sp dn er).set (0+(44+k)) v=kv::str t.pr::zsb .u64 t.fl::int t.rm::ptr r1 0::ptr r2 0::ptr r3 0::(mfC sd sv++[sp,Value.bool dn,int er].set k v):=by
 unfold ckC
 rw[show 0+(44+k)=(37+k)+7 by omega]
 show kv::str t.pr::zsb .u64 t.fl::int t.rm::ptr r1 0::ptr r2 0::ptr r3 0::((mfC sd sv++[sp,Value.bool dn,int er]).set (37+k) v)=_
 rw[List.set_append_right _ _ (by rw[zra hd]; omega),zra hd,show 37+k - 37=k by omega]
theorem zmH(hd:sd.dg.length=32)(v:Value):(ckC kv t r1 r2 r3 sd sv sp dn er).set (0+44) v=ckC kv t r1 r2 r3 sd sv v dn er:=ziq hd 0 v
theorem znH(hd:sd.dg.length=32)(d:Bool):(ckC kv t r1 r2 r3 sd sv sp dn er).set (0+45) (.bool d)=ckC kv t r1 r2 r3 sd sv sp d er:=ziq hd 1 _
theorem ztC(hd:sd.dg.length=32)(e:Int):(ckC kv t r1 r2 r3 sd sv sp dn er).set (0+46) (int e)=ckC kv t r1 r2 r3 sd sv sp dn e:=ziq hd 2 _
theorem ziJ(hd:sd.dg.length=32):((ckC kv t r1 r2 r3 sd sv sp dn er).drop (0+7)).take 37=mfC sd sv:=by
 unfold ckC
 show (mfC sd sv++[sp,Value.bool dn,int er]).take 37=_
 exact List.take_left' (zra hd)
def stB(st:Nat)(m:Mf)(cv:Value)(pd want:Nat)(L0:List (Nat × Blk)):List (Nat × Blk):=(st,⟨stC m cv pd want,true⟩)::L0
theorem zoH(c:Bool)(p:Nat):(zpa P .eql 94 c).f (ptr p 0) (.pointer none)=some (.bool false):=by cases c <;> kernel_rfl
theorem zpH:(zpa P .eql 94 true).f (.pointer none) (.pointer none)=some (.bool true):=by kernel_rfl
theorem zpv(hd:sd.dg.length=32)(hO:St H (S++mB A B C c (ckC kv t r1 r2 r3 sd sv (.pointer none) dn er) T))(hk:K (int (-1)) H):wCall P zHa [ptr c 0] H K:=by
 apply zCe; unfold zRd
 refine zaa zca ?_
 refine zaa zba ?_
 refine ld hO 6 rfl (zgq hd) ?_
 refine zaa zpH ?_
 refine zvd rfl ?_
 exact hk
theorem zqv(hd:sd.dg.length=32)(hm:m.dg.length=32)(hc:RdH S cv m.cks)(hO:St H (S++mB A B C c (ckC kv t r1 r2 r3 sd sv (ptr st 0) dn er) (stB st m cv pd want L0)))(hk:K (int (if want=m.cks.length then -2 else (want:Int))) H):wCall P zHa [ptr c 0] H K:=by
 apply zCe; unfold zRd
 have hi:(S++mB A B C c (ckC kv t r1 r2 r3 sd sv (ptr st 0) dn er) (stB st m cv pd want L0))[S.length+7]?=some (st,⟨stC m cv pd want,true⟩):=zwa rfl
 refine zaa zca ?_
 refine zaa zba ?_
 refine ld hO 6 rfl (zgq hd) ?_
 refine zaa (zoH _ _) ?_
 refine zDb rfl ?_
 refine zaa zca ?_
 refine zaa zba ?_
 refine ld hO 6 rfl (zgq hd) ?_
 refine zin hm hc.app hO hi ?_
 refine zma (fun h=>?_) (fun h=>?_)
 ·rw[if_pos h] at hk; exact hk
 ·rw[if_neg h] at hk
  refine zaa zca ?_
  refine zaa zba ?_
  refine ld hO 6 rfl (zgq hd) ?_
  refine zsz hm hO hi ?_
  exact hk
end J
set_option maxRecDepth 100000
namespace J
open Go Go.Ab
variable{H:Heap}{Γ Γ0 Γ2 Δ G L S T L0:List (Nat × Blk)}{K:VH}{v w x cv dv kv sv sp:Value}{xs ys zs bs b key ms:List Int}{i j p q r o n k f wd pd st want c:Nat}{e er:Int}{cs cs' c1 ck:List Value}{l:List UInt8}{m sd:Mf}{t u:Tm}{es:List (List Value)}{el:List Value}{cks:List (List Int)}{dn:Bool}{A B C:Ring}{r1 r2 r3:Nat}
def Ring.more(R:Ring)(cs':List Value)(el:List Value):Ring:=⟨R.q,R.r,R.n,R.f,cs',R.es++[el]⟩
theorem zrt(R:Ring):(R.more cs' el).es.length=R.es.length+1:=by simp[Ring.more]
theorem zqH(h:St H (S++((mB A B C c ck T).set 4 (C.q,⟨cs',true⟩)).set 5 (C.r,⟨rgC C.q C.n 1 C.f (C.es.length+1),true⟩))):St H (S++mB A B (C.more cs' el) c ck T):=by
 unfold mB
 rw[zrt]
 exact h
theorem zrH(h:St H (S++((mB A B C c ck T).set 2 (B.q,⟨cs',true⟩)).set 3 (B.r,⟨rgC B.q B.n 1 B.f (B.es.length+1),true⟩))):St H (S++mB A (B.more cs' el) C c ck T):=by
 unfold mB
 rw[zrt]
 exact h
theorem zuC{T':List (Nat × Blk)}(h:St H (S++mB A B C c ck T))(hs:T'.Sublist T):St H (S++mB A B C c ck T'):=
 h.sub (List.Sublist.append (List.Sublist.refl _) ((((((((hs.cons_cons _).cons_cons _).cons_cons _).cons_cons _).cons_cons _).cons_cons _).cons_cons _)))
theorem zrv{T':List (Nat × Blk)}:S++mB A B C c ck (T++T')=(S++mB A B C c ck T)++T':=by
 rw[List.append_assoc]; rfl
theorem zCL:(zAa P 108).f []=some (agg []):=by kernel_rfl
theorem zEF(a:Int):(zAa P 103).f [(0,int a)]=some (agg [int a]):=by kernel_rfl
theorem zwK(e:Int)(a:Option Addr)(n c:Nat):(zAa P 106).f [(0,int e),(1,.slice a n c)]=some (agg [int e,.slice a n c]):=by kernel_rfl
set_option maxHeartbeats 2000000 in
theorem zvC(hd:sd.dg.length=32)(ok:m.Ok)(hc:RdH S cv m.cks)(hO:St H (S++mB A B C c (ckC kv t r1 r2 C.r sd sv (ptr st 0) dn er) (stB st m cv pd want L0)))(hC:Rg 1 C.n C.f C.es C.cs)(hdg:Dg pd xs L0)(hx:By xs)(hl:xs.length≤1000000)
  (hfull:C.es.length=C.n→K (.bool false) H)
  (hbad:C.es.length < C.n→¬ (want=m.cks.length∧sha xs=m.dg)→∀ H',St H' (S++mB A B C c (ckC kv t r1 r2 C.r sd sv (ptr st 0) dn 153) (stB st m cv pd want L0))→K (.bool true) H')
  (hok:C.es.length < C.n→(want=m.cks.length∧sha xs=m.dg)→∀ H' cs',Rg 1 C.n C.f (C.es++[[.iface 108 (agg [])]]) cs'→St H' (S++mB A B (C.more cs' [.iface 108 (agg [])]) c (ckC kv t r1 r2 C.r sd sv (ptr st 0) true er) (stB st m cv pd want L0))→K (.bool true) H') :
  wCall P zMc [ptr c 0] H K:=by
 apply zXj; unfold zqh
 have hkl:=hC.kl
 refine zaa zca ?_
 refine zaa zba ?_
 refine ld hO 6 rfl (v:=ptr C.r 0) rfl ?_
 refine zQj (i:=5) hO rfl hC.kl hC.n16 ?_
 refine zaa zUa ?_
 refine zma (fun h=>?_) (fun h=>?_)
 ·exact hfull (by omega)
 have hlt:C.es.length < C.n:=by omega
 refine zaa zca ?_
 refine zaa zba ?_
 refine ld hO 6 rfl (zgq hd) ?_
 have hO2:St H ((S++mB A B C c (ckC kv t r1 r2 C.r sd sv (ptr st 0) dn er) [(st,⟨stC m cv pd want,true⟩)])++L0):=by rw[← zrv]; exact hO
 refine zTw (i:=S.length+7) ok hc.app hO2 (zwa rfl) hdg hx hl ?_
 clear hO hO2
 intro H hO
 rw[← zrv] at hO
 replace hO:St H (S++mB A B C c (ckC kv t r1 r2 C.r sd sv (ptr st 0) dn er) (stB st m cv pd want L0)):=hO
 refine zaa zGc ?_
 refine zTc (fun h2=>?_) (fun h2=>?_)
 ·have h2:¬ (want=m.cks.length∧sha xs=m.dg):=fun h3=>by rw[decide_eq_true h3] at h2; cases h2
  refine zaa zca ?_
  refine zaa zba ?_
  refine s1 hO 6 rfl rfl (by rw[zhq hd]; omega) ?_
  clear hO
  intro H hO
  rw[ztC hd] at hO
  exact hbad hlt h2 H hO
 ·have h2:want=m.cks.length∧sha xs=m.dg:=Classical.byContradiction fun h3=>by rw[decide_eq_false h3] at h2; cases h2
  refine zaa zca ?_
  refine zaa zba ?_
  refine ld hO 6 rfl (v:=ptr C.r 0) rfl ?_
  refine zaa zCL ?_
  refine zPf (i:=5) (j:=4) hO rfl rfl (by omega) hC rfl (fun h3=>absurd h3 (by omega)) ?_
  clear hO
  intro _ H cs' hC' hO
  replace hO:=zqH (el:=[.iface 108 (agg [])]) hO
  refine zaa zca ?_
  refine zaa zba ?_
  refine s1 hO 6 rfl rfl (by rw[zhq hd]; omega) ?_
  clear hO
  intro H hO
  rw[znH hd] at hO
  exact hok hlt h2 H cs' hC' hO
set_option maxHeartbeats 4000000 in
theorem zvz(hd:sd.dg.length=32)(ok:m.Ok)(hr:zGa m)(hc:RdH S cv m.cks)(hO:St H (S++mB A B C c (ckC kv t r1 B.r C.r sd sv (ptr st 0) dn er) (stB st m cv pd want L0)))(hB:Rg 1 B.n B.f B.es B.cs)(hC:Rg 1 C.n C.f C.es C.cs)(hdg:Dg pd xs L0)(hx:By xs)(hl:xs.length≤1000000)
  (hw:RdB S w ys) (hy:By ys) (hyl:ys.length≤1000000) (hwant:want < m.cks.length) (hb1:B.es.length < B.n) (hc1:C.es.length < C.n)
  (hno:¬ ((ys.length:Int)=(zig m want).2∧sha ys=m.cks[want])→∀ H' cs',Rg 1 B.n B.f (B.es++[[.iface 103 (agg [int want])]]) cs'→St H' (S++mB A (B.more cs' [.iface 103 (agg [int want])]) C c (ckC kv t r1 B.r C.r sd sv (ptr st 0) dn er) (stB st m cv pd want L0))→K (.tuple [].toArray) H')
  (hyes:((ys.length:Int)=(zig m want).2∧sha ys=m.cks[want])→∀ H' cs' L',Dg pd (xs++ys) L'→Rg 1 C.n C.f (C.es++[[.iface 106 (agg [int want,w])]]) cs'→St H' (S++mB A B (C.more cs' [.iface 106 (agg [int want,w])]) c (ckC kv t r1 B.r C.r sd sv (ptr st 0) dn er) (stB st m cv pd (want+1) L'))→K (.tuple [].toArray) H') :
  wCall P zAc [ptr c 0,agg [int want,w]] H K:=by
 apply znj; unfold zMg
 obtain⟨aw,nw',cw,rfl⟩:=hw.shape
 rw[ztc]
 refine zeb hO ?_
 clear hO
 intro p3 H hO
 have hO2:St H (((S++mB A B C c (ckC kv t r1 B.r C.r sd sv (ptr st 0) dn er) [(st,⟨stC m cv pd want,true⟩)])++[(p3,⟨[int want,.slice aw nw' cw],true⟩)])++L0):=by
  refine swp ?_
  rw[← zrv]; exact hO
 clear hO
 have hO:=hO2
 clear hO2
 have hi:((S++mB A B C c (ckC kv t r1 B.r C.r sd sv (ptr st 0) dn er) [(st,⟨stC m cv pd want,true⟩)])++[(p3,(⟨[int want,.slice aw nw' cw],true⟩:Blk))])[S.length+7]?=some (st,⟨stC m cv pd want,true⟩):=zCa (zwa rfl)
 refine zaa zca ?_
 refine zaa zba ?_
 refine zoa hO (S.length+6) (zCa (zCa (zwa rfl))) (zgq hd) ?_
 refine zaa zba ?_
 refine zoa hO (_+0) (zCa (zwa rfl)) (v:=int want) rfl ?_
 refine zaa zba ?_
 refine zoa hO (_+0) (zCa (zwa rfl)) (v:=.slice aw nw' cw) rfl ?_
 refine ztz ok hr hc.app.app hO hi hdg hx hl hw.app.app hy hyl hwant ?_ ?_
 ·clear hO
  intro hg H hO
  rw[List.append_assoc,← zrv] at hO
  replace hO:St H (S++mB A B C c (ckC kv t r1 B.r C.r sd sv (ptr st 0) dn er) ((st,⟨stC m cv pd want,true⟩)::(p3,⟨[int want,.slice aw nw' cw],true⟩)::L0)):=hO
  refine zaa zQa ?_
  refine zNb (by decide) ?_
  refine zaa zca ?_
  refine zaa zba ?_
  refine ld hO 6 rfl (v:=ptr B.r 0) rfl ?_
  refine zaa zba ?_
  refine ld hO 8 rfl (v:=int want) rfl ?_
  refine zaa (zEF _) ?_
  refine zPf (i:=3) (j:=2) hO rfl rfl (by omega) hB rfl (fun h3=>absurd h3 (by omega)) ?_
  clear hO
  intro _ H cs' hB' hO
  replace hO:=zrH (el:=[.iface 103 (agg [int want])]) hO
  exact hno hg H cs' hB' (zuC hO ((List.sublist_cons_self _ _).cons_cons _))
 ·clear hO
  intro hg H L' hdg' hO
  rw[List.set_append_left _ _ (by simp[mB]),Go.Ab.set_r,List.append_assoc] at hO
  replace hO:St H ((S++mB A B C c (ckC kv t r1 B.r C.r sd sv (ptr st 0) dn er) [(st,⟨stC m cv pd (want+1),true⟩)])++([(p3,⟨[int want,.slice aw nw' cw],true⟩)]++L')):=hO
  rw[← zrv] at hO
  replace hO:St H (S++mB A B C c (ckC kv t r1 B.r C.r sd sv (ptr st 0) dn er) ((st,⟨stC m cv pd (want+1),true⟩)::(p3,⟨[int want,.slice aw nw' cw],true⟩)::L')):=hO
  refine zaa zQa ?_
  refine zqc (fun h=>h rfl) ?_
  refine zaa zca ?_
  refine zaa zba ?_
  refine ld hO 6 rfl (v:=ptr C.r 0) rfl ?_
  refine zaa zba ?_
  refine ld hO 8 rfl (v:=int want) rfl ?_
  refine zaa zba ?_
  refine ld hO 8 rfl (v:=.slice aw nw' cw) rfl ?_
  refine zaa (zwK _ _ _ _) ?_
  refine zPf (i:=5) (j:=4) hO rfl rfl (by omega) hC rfl (fun h3=>absurd h3 (by omega)) ?_
  clear hO
  intro _ H cs' hC' hO
  replace hO:=zqH (el:=[.iface 106 (agg [int want,.slice aw nw' cw])]) hO
  exact hyes hg H cs' L' hdg' hC' (zuC hO ((List.sublist_cons_self _ _).cons_cons _))
end J
set_option maxRecDepth 100000
namespace J
open Go Go.Ab
variable{H:Heap}{Γ Γ0 Γ2 Δ G L S T L0:List (Nat × Blk)}{K:VH}{v w x cv dv kv sv sp:Value}{xs ys zs bs b key ms:List Int}{i j p q r o n k f wd pd st want c:Nat}{e er:Int}{cs cs' c1 ck:List Value}{l:List UInt8}{m sd:Mf}{t u:Tm}{es:List (List Value)}{el:List Value}{cks:List (List Int)}{dn:Bool}{A B C:Ring}{r1 r2 r3:Nat}
theorem swapT{X M:List (Nat × Blk)}(h:St H ((S++M)++X)):St H ((S++X)++M):=h.perm (by
 rw[List.append_assoc,List.append_assoc]
 exact List.Perm.append_left S List.perm_append_comm)
theorem zjJ(hd:sd.dg.length=32):((ckC kv t r1 r2 r3 sd sv sp dn er).drop (0+1)).take 3=tmC t:=rfl
theorem zkJ(hd:sd.dg.length=32)(hm:m.dg.length=32):(ckC kv t r1 r2 r3 sd sv sp dn er).take (0+7)++(mfC m cv++(ckC kv t r1 r2 r3 sd sv sp dn er).drop (0+7+37))=ckC kv t r1 r2 r3 m cv sp dn er:=by
 unfold ckC
 have e:(kv::str t.pr::zsb .u64 t.fl::int t.rm::ptr r1 0::ptr r2 0::ptr r3 0::(mfC sd sv++[sp,Value.bool dn,int er])).drop (0+7+37)=[sp,Value.bool dn,int er]:=by
  show ((mfC sd sv++[sp,Value.bool dn,int er])).drop 37=_
  exact List.drop_left' (zra hd)
 rw[e]; rfl
theorem bGo(hd:m.dg.length=32)(n:Int)(a:Option Addr)(k c:Nat):(zAa P 105).f [(0,int n),(1,agg (mfC m (.slice a k c)))]=some (agg (int n::mfC m (.slice a k c))):=by
 obtain⟨pr,ver,sz,ck,dg,cks⟩:=m
 have hd:dg.length=32:=hd
 match dg,hd with
 | [a0,a1,a2,a3,a4,a5,a6,a7,a8,a9,a10,a11,a12,a13,a14,a15,a16,a17,a18,a19,a20,a21,a22,a23,a24,a25,a26,a27,a28,a29,a30,a31],_=>show _=_; kernel_rfl
end J
set_option maxRecDepth 100000
namespace J
open Go Go.Ab
variable{H:Heap}{Γ Γ0 Γ2 Δ G L S T L0:List (Nat × Blk)}{K:VH}{v w x cv dv kv sv sp:Value}{xs ys zs bs b key ms:List Int}{i j p q r o n k f wd pd st want c:Nat}{e er:Int}{cs cs' c1 ck:List Value}{l:List UInt8}{m sd:Mf}{t u:Tm}{es:List (List Value)}{el:List Value}{cks:List (List Int)}{dn:Bool}{A B C:Ring}{r1 r2 r3:Nat}
theorem zxK:zLr m t=0↔zGa m∧zMf m.pr=zMf t.pr∧¬ m.ver < t.fl∧¬ m.sz > t.rm:=by
 unfold zLr
 by_cases h1:zGa m
 ·rw[if_neg (by simpa using h1)]
  by_cases h2:zMf m.pr=zMf t.pr
  ·rw[if_neg (by simpa using h2)]
   by_cases h3:m.ver < t.fl
   ·rw[if_pos h3]; simp[h3]
   ·rw[if_neg h3]
    by_cases h4:m.sz > t.rm
    ·rw[if_pos h4]; simp only[h4,not_true_eq_false,and_false,iff_false]; omega
    ·rw[if_neg h4]; simp only[h1,h2,h3,h4,not_false_eq_true,and_self]
  ·rw[if_pos h2]; simp[h2]
 ·rw[if_pos h1]; simp[h1]
set_option maxHeartbeats 4000000 in
theorem zwz(hd:sd.dg.length=32)(hO:St H (S++mB A B C c (ckC kv t r1 B.r C.r sd sv (.pointer none) dn er) []))(hB:Rg 1 B.n B.f B.es B.cs)(hC:Rg 1 C.n C.f C.es C.cs)
  (hkv:RdB S kv key) (hb:By key) (hkl:key.length≤1000000) (hw:RdB S w b) (hbb:By b) (hbl:b.length≤1000000) (ht:t.pr.length≤1000000) (hb1:B.es.length < B.n) (hc1:C.es.length < C.n)
  (hbad:(zrb key b).2.2≠0→∀ H' cs',Rg 1 B.n B.f (B.es++[[.iface 103 (agg [int (-1)])]]) cs'→St H' (S++mB A (B.more cs' [.iface 103 (agg [int (-1)])]) C c (ckC kv t r1 B.r C.r sd sv (.pointer none) dn er) [])→K (.tuple [].toArray) H')
  (hadm:(zrb key b).2.2=0→zLr (zrb key b).1 t≠0→∀ H',St H' (S++mB A B C c (ckC kv t r1 B.r C.r sd sv (.pointer none) dn (zLr (zrb key b).1 t)) [])→K (.tuple [].toArray) H')
  (hok:(zrb key b).2.2=0→zLr (zrb key b).1 t=0→zGa (zrb key b).1→∀ H' X cv cv2 st pd L0 cs2 cs3,Dg pd [] L0→RdH X cv (zrb key b).1.cks→RdH X cv2 (zrb key b).1.cks →
   Rg 1 B.n B.f (B.es++[[.iface 105 (agg (int (zrb key b).2.1::mfC (zrb key b).1 cv))]]) cs2→Rg 1 C.n C.f (C.es++[[.iface 105 (agg (int (zrb key b).2.1::mfC (zrb key b).1 cv))]]) cs3 →
   St H' ((S++X)++mB A (B.more cs2 [.iface 105 (agg (int (zrb key b).2.1::mfC (zrb key b).1 cv))]) (C.more cs3 [.iface 105 (agg (int (zrb key b).2.1::mfC (zrb key b).1 cv))]) c (ckC kv t r1 B.r C.r (zrb key b).1 cv (ptr st 0) dn er) (stB st (zrb key b).1 cv2 pd 0 L0))→K (.tuple [].toArray) H') :
  wCall P zzc [ptr c 0,w] H K:=by
 apply zmj; unfold zLg
 have ok:=znt (key:=key) hbb hbl
 have hcase:=zhn (key:=key) hbb hbl
 refine zaa zca ?_
 refine zaa zba ?_
 refine ld hO 6 rfl (v:=kv) rfl ?_
 refine ziC hO hkv.app hw.app hb hbb hkl hbl ?_
 clear hO
 intro H cv hO h1
 generalize zrb key b=o3 at *
 obtain⟨m,n3,e3⟩:=o3
 simp only at *
 have hO:=swapT hO
 have hcS:RdH (S++zKa cv (hsC m.cks)) cv m.cks:=h1.app'
 generalize hX:zKa cv (hsC m.cks)=X at *
 refine zaa zaL ?_
 refine zaa zbL ?_
 refine zaa zcL ?_
 rw[zcM]
 refine nw hO ?_
 clear hO
 intro p4 H hO
 replace hO:St H ((S++X)++mB A B C c (ckC kv t r1 B.r C.r sd sv (.pointer none) dn er) [(p4,⟨mfC m0 zqa,true⟩)]):=hO
 refine sw hO 7 rfl rfl (zra ok.dl) (ztb h1.one) ?_
 clear hO
 intro H hO
 replace hO:St H ((S++X)++mB A B C c (ckC kv t r1 B.r C.r sd sv (.pointer none) dn er) [(p4,⟨mfC m cv,true⟩)]):=hO
 refine zaa zQa ?_
 refine zma (fun he=>?_) (fun he=>?_)
 ·refine zaa zca ?_
  refine zaa zba ?_
  refine ld hO 6 rfl (v:=ptr B.r 0) rfl ?_
  refine zaa (zEF _) ?_
  refine zPf (i:=3) (j:=2) hO rfl rfl (by omega) hB rfl (fun h3=>absurd h3 (by omega)) ?_
  clear hO
  intro _ H cs' hB' hO
  replace hO:=zuC (zrH (el:=[.iface 103 (agg [int (-1)])]) hO) (List.nil_sublist _)
  refine hbad he H cs' hB' ?_
  rw[List.append_assoc] at hO
  exact zhg hO
 have he:e3=0:=Classical.not_not.1 he
 refine lw hO 7 rfl (zra ok.dl) (by omega) ?_
 refine zaa zca ?_
 refine zaa zba ?_
 refine zua hO ((S++X).length+6) (zwa rfl) (zjJ hd) rfl (by omega) ?_
 refine zlz ok hcS.app ht hO ?_
 clear hO
 intro H hO
 refine zaa zQa ?_
 refine zma (fun ha=>?_) (fun ha=>?_)
 ·refine zaa zca ?_
  refine zaa zba ?_
  refine s1 hO 6 rfl rfl (by rw[zhq hd]; omega) ?_
  clear hO
  intro H hO
  rw[ztC hd] at hO
  replace hO:St H ((S++X)++mB A B C c (ckC kv t r1 B.r C.r sd sv (.pointer none) dn (zLr m t)) [(p4,⟨mfC m cv,true⟩)]):=hO
  refine hadm he ha H ?_
  have hO:=zuC hO (List.nil_sublist _)
  rw[List.append_assoc] at hO
  exact zhg hO
 have ha:zLr m t=0:=Classical.not_not.1 ha
 have hr:zGa m:=(zxK.1 ha).1
 refine lw hO 7 rfl (zra ok.dl) (by omega) ?_
 refine zaa zca ?_
 refine zaa zba ?_
 refine zed hO ((S++X).length+6) (zwa rfl) (zra ok.dl) (by rw[zhq hd]; omega) (ztb h1.one) ?_
 clear hO
 intro H hO
 replace hO:=hO.set_r
 rw[ztc,zkJ hd ok.dl] at hO
 replace hO:St H ((S++X)++mB A B C c (ckC kv t r1 B.r C.r m cv (.pointer none) dn er) [(p4,⟨mfC m cv,true⟩)]):=hO
 refine lw hO 7 rfl (zra ok.dl) (by omega) ?_
 refine zSw ok hcS.app hr hO ?_
 clear hO
 intro H cv2 pd L0 st hdg h2 hO
 generalize hY:zKa cv2 (hsC m.cks)=Y at *
 replace hO:St H ((((S++X)++(mB A B C c (ckC kv t r1 B.r C.r m cv (.pointer none) dn er) []++[(p4,⟨mfC m cv,true⟩)]))++Y)++(L0++[(st,⟨stC m cv2 pd 0,true⟩)])):=hO
 have hO2:St H ((S++(X++Y))++(mB A B C c (ckC kv t r1 B.r C.r m cv (.pointer none) dn er) []++([(st,⟨stC m cv2 pd 0,true⟩)]++([(p4,⟨mfC m cv,true⟩)]++L0)))):=hO.perm (by classical exact List.perm_iff_count.2 fun _=>by simp only[List.count_append,List.count_nil,List.set_cons_zero]; omega)
 clear hO
 have hO:St H ((S++(X++Y))++mB A B C c (ckC kv t r1 B.r C.r m cv (.pointer none) dn er) ((st,⟨stC m cv2 pd 0,true⟩)::(p4,⟨mfC m cv,true⟩)::L0)):=hO2
 clear hO2
 refine zaa rfl ?_
 refine zaa rfl ?_
 refine zaa zca ?_
 refine zaa zba ?_
 refine s1 hO 6 rfl rfl (by rw[zhq ok.dl]; omega) ?_
 clear hO
 intro H hO
 rw[zmH ok.dl] at hO
 replace hO:St H ((S++(X++Y))++mB A B C c (ckC kv t r1 B.r C.r m cv (ptr st 0) dn er) ((st,⟨stC m cv2 pd 0,true⟩)::(p4,⟨mfC m cv,true⟩)::L0)):=hO
 refine zaa zca ?_
 refine zaa zba ?_
 refine ld hO 6 rfl (v:=ptr B.r 0) rfl ?_
 refine lw hO 8 rfl (zra ok.dl) (by omega) ?_
 obtain⟨ac,nc,cc,rfl⟩:=h1.shape
 refine zaa (bGo ok.dl _ _ _ _) ?_
 refine zPf (i:=3) (j:=2) hO rfl rfl (by omega) hB rfl (fun h3=>absurd h3 (by omega)) ?_
 clear hO
 intro _ H cs2 hB' hO
 replace hO:=zrH (el:=[.iface 105 (agg (int n3::mfC m (.slice ac nc cc)))]) hO
 refine zaa zca ?_
 refine zaa zba ?_
 refine ld hO 6 rfl (v:=ptr C.r 0) rfl ?_
 refine lw hO 8 rfl (zra ok.dl) (by omega) ?_
 refine zaa (bGo ok.dl _ _ _ _) ?_
 refine zPf (i:=5) (j:=4) hO rfl rfl (by omega) hC rfl (fun h3=>absurd h3 (by omega)) ?_
 clear hO
 intro _ H cs3 hC' hO
 replace hO:=zqH (el:=[.iface 105 (agg (int n3::mfC m (.slice ac nc cc)))]) hO
 refine hok he ha hr H (X++Y) _ cv2 st pd L0 cs2 cs3 hdg ?_ ?_ hB' hC' (zuC hO ((List.sublist_cons_self _ _).cons_cons _))
 ·exact h1.app
 ·exact h2.app'
end J
set_option maxRecDepth 100000
namespace J
open Go Go.Ab
variable{H:Heap}{Γ Γ0 Γ2 Δ G L S T L0:List (Nat × Blk)}{K:VH}{v w x cv dv kv sv sp:Value}{xs ys zs bs b key ms:List Int}{i j p q r o n k f wd pd st want c:Nat}{e er:Int}{cs cs' c1 ck:List Value}{l:List UInt8}{m sd:Mf}{t u:Tm}{es:List (List Value)}{el:List Value}{cks:List (List Int)}{dn:Bool}{A B C:Ring}{r1 r2 r3:Nat}
def Ring.rest(R:Ring)(cs':List Value)(es':List (List Value)):Ring:=⟨R.q,R.r,R.n,(R.f+1) % R.n,cs',es'⟩
theorem zDL(h:St H (S++((mB A B C c ck T).set 0 (A.q,⟨cs',true⟩)).set 1 (A.r,⟨rgC A.q A.n 2 ((A.f+1) % A.n) es.length,true⟩))):St H (S++mB (A.rest cs' es) B C c ck T):=h
theorem zEL(h:St H (S++((mB A B C c ck T).set 2 (B.q,⟨cs',true⟩)).set 3 (B.r,⟨rgC B.q B.n 1 ((B.f+1) % B.n) es.length,true⟩))):St H (S++mB A (B.rest cs' es) C c ck T):=h
theorem zFL(h:St H (S++((mB A B C c ck T).set 4 (C.q,⟨cs',true⟩)).set 5 (C.r,⟨rgC C.q C.n 1 ((C.f+1) % C.n) es.length,true⟩))):St H (S++mB A B (C.rest cs' es) c ck T):=h
theorem zyK(h:St H (S++((mB A B C c ck T).set 0 (A.q,⟨cs',true⟩)).set 1 (A.r,⟨rgC A.q A.n 2 A.f (A.es.length+1),true⟩))):St H (S++mB (A.more cs' el) B C c ck T):=by
 unfold mB
 rw[zrt]
 exact h
theorem zxz(hd:sd.dg.length=32)(hO:St H (S++mB A B C c (ckC kv t r1 r2 r3 sd sv sp dn er) T))(hk:K (.bool dn) H):wCall P zGb [ptr c 0] H K:=by
 apply zlj; unfold zKg
 refine zaa zca ?_
 refine zaa zba ?_
 refine ld hO 6 rfl (zCF hd) ?_
 exact hk
theorem zwC(hd:sd.dg.length=32)(hO:St H (S++mB A B C c (ckC kv t r1 r2 r3 sd sv sp dn er) T))(hk:K (int er) H):wCall P zgc [ptr c 0] H K:=by
 apply zWj; unfold zph
 refine zaa zca ?_
 refine zaa zba ?_
 refine ld hO 6 rfl (zDF hd) ?_
 exact hk
theorem zIE(kv:Value)(t:Tm)(r1 r2 r3:Nat)(a:Option Addr)(n c:Nat)(hk:kv=.slice a n c):(zAa P 96).f [(0,kv),(1,agg (tmC t)),(2,ptr r1 0),(3,ptr r2 0),(4,ptr r3 0)]=some (agg (ckC kv t r1 r2 r3 m0 zqa (.pointer none) false 0)):=by
 subst hk
 kernel_rfl
theorem zxC(hO:St H Γ)(hkv:RdB Γ v key)(hkl:key.length≤1000000)
  (hk:∀ H' kv kc c,St H' ((Γ++zKa kv kc)++[(c,⟨ckC kv t r1 r2 r3 m0 zqa (.pointer none) false 0,true⟩)])→OwnB kv key kc→K (ptr c 0) H'):wCall P zVf [v,agg (tmC t),ptr r1 0,ptr r2 0,ptr r3 0] H K:=by
 apply zmu; unfold zlu
 rw[zBo]
 refine nw hO.z ?_
 clear hO
 intro p6 H hO
 replace hO:St H (Γ++[(p6,⟨tmC t,true⟩)]):=hO
 have hO1:=hO
 refine zFr hO hkv.app (by omega) ?_
 clear hO
 intro H2 kv kc hO hkv2
 refine zFa hO (Γ.length+0) (zCa (zwa rfl)) (n:=3) rfl (by omega) ?_
 refine⟨zcb hO1 (Γ.length+0) (zwa rfl) hO (Γ.length+0) (zCa (zwa rfl)) rfl,?_⟩
 obtain⟨a,n,c',e⟩:=hkv2.rd.shape
 refine zaa (zIE kv t r1 r2 r3 a n c' e) ?_
 rw[ztc]
 refine zeb hO ?_
 clear hO hO1
 intro c H hO
 refine hk H kv kc c (hO.sub ?_) hkv2
 simp only[List.append_assoc]
 exact List.Sublist.append (List.Sublist.refl Γ) (List.sublist_append_right [(p6,_)] _)
end J
