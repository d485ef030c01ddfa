/- texts of the proof, one behind the other -/
import Derived.Test.YtlkkkfmjfpeooaaGreatDoorUG
set_option linter.unusedVariables false
set_option linter.unusedSimpArgs false
set_option linter.unusedSectionVars false
set_option maxRecDepth 100000
namespace J
open Go Go.Ab
variable{H:Heap}{Γ Γ0 Γ2 Δ G L:List (Nat × Blk)}{K:VH}{v w x cv dv:Value}{xs ys zs bs b key ms:List Int}{i j p q r o n k f wd:Nat}{e:Int}{cs cs' c1:List Value}{l:List UInt8}{m:Mf}{t u:Tm}{es:List (List Value)}{el:List Value}
def rgC(q n wd f k:Nat):List Value:=[sl q 0 n (2 * wd+1),int f,int k,.bool false]
structure Rg (wd n f:Nat) (es:List (List Value)) (cs:List Value):Prop where
 n1:1≤n
 n16:n≤16
 fl:f < n
 kl:es.length≤n
 len:cs.length=n * wd
 wl:∀ e ∈ es,e.length=wd
 at':∀ j (h:j < es.length),(cs.drop (((f+j) % n) * wd)).take wd=es[j]
theorem zpu(hn:1≤n)(j:Nat):(f+j) % n < n:=Nat.mod_lt _ (by omega)
theorem zQH{j:Nat}(hf:f < n)(hj:j < n):(f+j) % n=if f+j < n then f+j else f+j - n:=by
 split
 ·rename_i h; exact Nat.mod_eq_of_lt h
 ·rw[Nat.mod_eq_sub_mod (by omega),Nat.mod_eq_of_lt (by omega)]
theorem zRH{j k:Nat}(hf:f < n)(hj:j < k)(hk:k < n):(f+j) % n≠(f+k) % n:=by
 rw[zQH hf hk,zQH hf (by omega)]
 split <;> split <;> omega
theorem zWA{a:Nat}(h:a < n)(hl:cs.length=n * wd)(he:el.length=wd):(cs.take (a * wd)++(el++cs.drop (a * wd+wd))).length=n * wd:=by
 have:a * wd+wd≤n * wd:=by rw[← Nat.succ_mul]; exact Nat.mul_le_mul_right _ h
 simp only[List.length_append,List.length_take,List.length_drop]
 omega
theorem zGD{a:Nat}(h:a < n)(hl:cs.length=n * wd)(he:el.length=wd):((cs.take (a * wd)++(el++cs.drop (a * wd+wd))).drop (a * wd)).take wd=el:=by
 have:a * wd+wd≤n * wd:=by rw[← Nat.succ_mul]; exact Nat.mul_le_mul_right _ h
 rw[List.drop_left' (by rw[List.length_take]; omega),List.take_left' he]
theorem zqu{a c:Nat}(h:a < n)(hc:c < n)(hne:a≠c)(hl:cs.length=n * wd)(he:el.length=wd):((cs.take (a * wd)++(el++cs.drop (a * wd+wd))).drop (c * wd)).take wd=(cs.drop (c * wd)).take wd:=by
 have h1:a * wd+wd≤n * wd:=by rw[← Nat.succ_mul]; exact Nat.mul_le_mul_right _ h
 have h2:c * wd+wd≤n * wd:=by rw[← Nat.succ_mul]; exact Nat.mul_le_mul_right _ hc
 apply List.ext_getElem?
 intro y
 rw[List.getElem?_take,List.getElem?_take]
 split
 ·rename_i hy
  rw[List.getElem?_drop,List.getElem?_drop]
  rcases Nat.lt_or_gt_of_ne hne with h3|h3
  ·have h4:a * wd+wd≤c * wd:=by rw[← Nat.succ_mul]; exact Nat.mul_le_mul_right _ h3
   rw[List.getElem?_append_right (by rw[List.length_take]; omega),List.getElem?_append_right (by rw[List.length_take]; omega),List.getElem?_drop]
   congr 1
   rw[List.length_take]; omega
  ·have h4:c * wd+wd≤a * wd:=by rw[← Nat.succ_mul]; exact Nat.mul_le_mul_right _ h3
   rw[List.getElem?_append_left (by rw[List.length_take]; omega),List.getElem?_take,if_pos (by omega)]
 ·rfl
theorem Rg.send(h:Rg wd n f es cs)(hk:es.length < n)(he:el.length=wd):Rg wd n f (es++[el]) (cs.take (((f+es.length) % n) * wd)++(el++cs.drop (((f+es.length) % n) * wd+wd))):=by
 have hm:=zpu (f:=f) h.n1 es.length
 refine⟨h.n1,h.n16,h.fl,by simp; omega,zWA hm h.len he,?_,?_⟩
 ·intro e hm
  rcases List.mem_append.1 hm with h1|h1
  ·exact h.wl e h1
  ·rw[List.mem_singleton.1 h1]; exact he
 ·intro j hj
  by_cases h1:j < es.length
  ·rw[zqu hm (zpu h.n1 j) (zRH h.fl h1 hk).symm h.len he,List.getElem_append_left h1]
   exact h.at' j h1
  ·have:j=es.length:=by simp at hj; omega
   subst this
   rw[zGD hm h.len he]
   simp
theorem Rg.recv(h:Rg wd n f (el::es) cs){z:List Value}(hz:z.length=wd):Rg wd n ((f+1) % n) es (cs.take (f * wd)++(z++cs.drop (f * wd+wd))):=by
 have hk:=h.kl
 rw[List.length_cons] at hk
 refine⟨h.n1,h.n16,zpu h.n1 1,by omega,zWA h.fl h.len hz,fun e hm=>h.wl e (List.mem_cons_of_mem _ hm),?_⟩
 intro j hj
 have e1:((f+1) % n+j) % n=(f+(j+1)) % n:=by rw[Nat.mod_add_mod]; congr 1; omega
 have e2:f≠(f+(j+1)) % n:=by
  have:=zRH (f:=f) (j:=0) (k:=j+1) h.fl (by omega) (by omega)
  rw[Nat.add_zero,Nat.mod_eq_of_lt h.fl] at this
  exact this
 rw[e1,zqu h.fl (zpu h.n1 (j+1)) e2 h.len hz]
 exact h.at' (j+1) (by simp; omega)
theorem Rg.head(h:Rg wd n f (el::es) cs):(cs.drop (f * wd)).take wd=el:=by
 have:=h.at' 0 (by simp)
 rw[Nat.add_zero,Nat.mod_eq_of_lt h.fl] at this
 exact this
theorem zfd(l:List Value):zya (agg l)=l:=rfl
end J
set_option maxRecDepth 100000
namespace J
open Go Go.Ab
variable{H:Heap}{Γ Γ0 Γ2 Δ G L:List (Nat × Blk)}{K:VH}{v w x cv dv:Value}{xs ys zs bs b key ms:List Int}{i j p q r o n k f wd:Nat}{e:Int}{cs cs' c1:List Value}{l:List UInt8}{m:Mf}{t u:Tm}{es:List (List Value)}{el:List Value}
def zhJ:List (List Value)→Bool
 | []=>false
 | _::_=>true
theorem two{A:List Value}(h:A.length=2):∃ a b,A=[a,b]:=by
 match A,h with
 | [a,b],_=>exact⟨a,b,rfl⟩
theorem one1{A:List Value}(h:A.length=1):∃ a,A=[a]:=by
 match A,h with
 | [a],_=>exact⟨a,rfl⟩
end J
set_option maxRecDepth 100000
namespace J
open Go Go.Ab
variable{H:Heap}{Γ Γ0 Γ2 Δ G L:List (Nat × Blk)}{K:VH}{v w x cv dv:Value}{xs ys zs bs b key ms:List Int}{i j p q r o n k f wd:Nat}{e:Int}{cs cs' c1:List Value}{l:List UInt8}{m:Mf}{t u:Tm}{es:List (List Value)}{el:List Value}
theorem zty(hO:St H (Γ++L))(hi:L[i]?=some (r,⟨rgC q n 1 f k,true⟩))(hk:k≤n)(hn:n≤16)(hK:K (int ((n - k:Nat):Int)) H):wCall P zYb [ptr r 0] H K:=by
 apply zjg; unfold zue
 refine zaa zda ?_
 refine zaa zca ?_
 refine ld hO i hi (v:=.bool false) rfl ?_
 refine zXa rfl ?_
 refine zaa zda ?_
 refine zaa zca ?_
 refine ld hO i hi (v:=sl q 0 n 3) rfl ?_
 refine zCa zzg ?_
 refine zaa zda ?_
 refine zaa zca ?_
 refine ld hO i hi (v:=int k) rfl ?_
 refine zaa (zub (by omega) (by omega)) ?_
 rw[show ((n - k:Nat):Int)=(n:Int) - k by omega] at hK
 exact hK
theorem zYp(hO:St H (Γ++L))(hi:L[i]?=some (r,⟨rgC q n 1 f k,true⟩))(hf:f < n)(hn:n≤16)(hj:j≤16)(hK:K (int (((f+j) % n:Nat):Int)) H):wCall P zvb [ptr r 0,int j] H K:=by
 apply zYf; unfold zae
 refine zaa zda ?_
 refine zaa zca ?_
 refine ld hO i hi (v:=int f) rfl ?_
 refine zaa (zXp (by omega)) ?_
 refine zaa zda ?_
 refine zaa zca ?_
 refine ld hO i hi (v:=sl q 0 n 3) rfl ?_
 refine zCa zzg ?_
 refine zaa (zdG (by omega)) ?_
 exact hK
theorem cells_one{v:Value}(h:oneCell v=true):zya v=[v]:=by cases v <;> first|rfl|(cases h; done)
set_option maxHeartbeats 1000000 in
theorem zuy{v:Value}(hO:St H (Γ++L))(hi:L[i]?=some (r,⟨rgC q n 1 f es.length,true⟩))(hj:L[j]?=some (q,⟨cs,true⟩))(hij:i≠j)(h:Rg 1 n f es cs)(hv1:oneCell v=true)
  (hno:es.length=n→K (.bool false) H)
  (hyes:es.length < n→∀ H' cs',Rg 1 n f (es++[[v]]) cs'→St H' (Γ++((L.set j (q,⟨cs',true⟩)).set i (r,⟨rgC q n 1 f (es.length+1),true⟩)))→K (.bool true) H') :
  wCall P zza [ptr r 0,v] H K:=by
 apply zig; unfold zte
 have hkn:=h.kl
 have h16:=h.n16
 have hil:=(List.getElem?_eq_some_iff.1 hi).1
 have hjl:=(List.getElem?_eq_some_iff.1 hj).1
 refine zty hO hi hkn h16 ?_
 refine zaa zib ?_
 refine zna (fun h0=>?_) (fun h0=>?_)
 ·exact hno (by omega)
 have hlt:es.length < n:=by omega
 have hm:=zpu (f:=f) h.n1 es.length
 refine zaa zda ?_
 refine zaa zca ?_
 refine ld hO i hi (v:=sl q 0 n 3) rfl ?_
 refine zaa zda ?_
 refine zaa zca ?_
 refine ld hO i hi (v:=int es.length) rfl ?_
 refine zYp hO hi h.fl h16 (by omega) ?_
 refine⟨same_at hO (Γ.length+i) (zua hi) hO (Γ.length+i) (zua hi) rfl,?_⟩
 refine zaa (zfb (by omega) (by omega)) ?_
 have hoff:0+(((f+es.length) % n:Nat):Int).toNat * 1=((f+es.length) % n) * 1:=by rw[Int.toNat_natCast,Nat.zero_add]
 rw[hoff]
 have hle:(f+es.length) % n * 1+1≤cs.length:=by rw[h.len]; omega
 refine zNc hO (Γ.length+j) (zua hj) (by rw[cells_one hv1]; rfl) hle (by rw[cells_one hv1]; simp[hv1]) ?_
 clear hO
 intro H hO
 replace hO:=hO.set_r
 rw[cells_one hv1] at hO
 have hs:Rg 1 n f (es++[[v]]) (cs.take (((f+es.length) % n) * 1)++([v]++cs.drop (((f+es.length) % n) * 1+1))):=h.send hlt rfl
 generalize cs.take (((f+es.length) % n) * 1)++([v]++cs.drop (((f+es.length) % n) * 1+1))=c2 at *
 have hi2:(L.set j (q,(⟨c2,true⟩:Blk)))[i]?=_:=(List.getElem?_set_ne (by omega:j≠i)).trans hi
 refine zaa zda ?_
 refine zaa zca ?_
 refine ld hO i hi2 (v:=int es.length) rfl ?_
 refine zaa (zXp (b:=1) (by omega)) ?_
 refine zaa zda ?_
 refine zaa zca ?_
 refine s1 hO i hi2 rfl (by simp[rgC]) ?_
 clear hO
 intro H hO
 exact hyes hlt H c2 hs hO
noncomputable def zSH:List (List Value)→Value
 | []=>.nilIface
 | el::_=>nth el 0
theorem zvy(hO:St H (Γ++L))(hi:L[i]?=some (r,⟨rgC q n 1 f es.length,true⟩))(hj:L[j]?=some (q,⟨cs,true⟩))(h:Rg 1 n f es cs)
  (hk:K (.tuple [zSH es,.bool (zhJ es)].toArray) H):wCall P zac [ptr r 0] H K:=by
 apply zlg; unfold zwe
 have h16:=h.n16
 refine zaa zda ?_
 refine zaa zca ?_
 refine ld hO i hi (v:=int es.length) rfl ?_
 refine zaa zib ?_
 cases es with
 | nil=>
  refine zUz rfl ?_
  exact hk
 | cons el es=>
  refine zVz (by simp; omega) ?_
  have h2:=h.wl el (by simp)
  have hf:=h.fl
  obtain⟨a,rfl⟩:=one1 h2
  refine zaa zda ?_
  refine zaa zca ?_
  refine ld hO i hi (v:=sl q 0 n 3) rfl ?_
  refine zaa zda ?_
  refine zaa zca ?_
  refine ld hO i hi (v:=int f) rfl ?_
  refine zaa (zfb (by omega) (by omega)) ?_
  have hh:=h.head
  have h3:cs[0+((f:Nat):Int).toNat * 1]?=some a:=by
   have e:=congrArg (fun l=>l[0]?) hh
   simp only[List.getElem?_take,List.getElem?_drop] at e
   simpa using e
  refine ld hO j hj h3 ?_
  exact hk
set_option maxHeartbeats 1000000 in
theorem zwy(hO:St H (Γ++L))(hi:L[i]?=some (r,⟨rgC q n 1 f es.length,true⟩))(hj:L[j]?=some (q,⟨cs,true⟩))(hij:i≠j)(h:Rg 1 n f es cs)
  (hno:es=[]→K (.tuple [.nilIface,.bool false].toArray) H)
  (hyes:∀ a er,es=[a]::er→∀ H' cs',Rg 1 n ((f+1) % n) er cs'→St H' (Γ++((L.set j (q,⟨cs',true⟩)).set i (r,⟨rgC q n 1 ((f+1) % n) er.length,true⟩)))→K (.tuple [a,.bool true].toArray) H') :
  wCall P zZb [ptr r 0] H K:=by
 apply zkg; unfold zve
 have h16:=h.n16
 have hf:=h.fl
 have hil:=(List.getElem?_eq_some_iff.1 hi).1
 have hjl:=(List.getElem?_eq_some_iff.1 hj).1
 refine zvy hO hi hj h ?_
 refine zaa rfl ?_
 refine zaa rfl ?_
 cases es with
 | nil=>
  refine zXa rfl ?_
  exact hno rfl
 | cons el es=>
  have hkl:=h.kl
  rw[List.length_cons] at hkl
  obtain⟨a,rfl⟩:=one1 (h.wl el (by simp))
  refine zsc rfl ?_
  refine zaa zda ?_
  refine zaa zca ?_
  refine ld hO i hi (v:=sl q 0 n 3) rfl ?_
  refine zaa zda ?_
  refine zaa zca ?_
  refine ld hO i hi (v:=int f) rfl ?_
  refine zaa (zfb (by omega) (by omega)) ?_
  rw[show 0+((f:Nat):Int).toNat * 1=f * 1 by rw[Int.toNat_natCast,Nat.zero_add]]
  have hle:f * 1+1≤cs.length:=by rw[h.len]; omega
  refine zNc hO (Γ.length+j) (zua hj) (by rfl) hle (by rfl) ?_
  clear hO
  intro H hO
  replace hO:=hO.set_r
  have hs:Rg 1 n ((f+1) % n) es (cs.take (f * 1)++(zya .nilIface++cs.drop (f * 1+1))):=h.recv rfl
  generalize cs.take (f * 1)++(zya .nilIface++cs.drop (f * 1+1))=c2 at *
  have hi2:(L.set j (q,(⟨c2,true⟩:Blk)))[i]?=_:=(List.getElem?_set_ne (by omega:j≠i)).trans hi
  refine zYp (j:=1) hO hi2 hf h16 (by omega) ?_
  refine zaa zda ?_
  refine zaa zca ?_
  refine s1 hO i hi2 rfl (by simp[rgC]) ?_
  clear hO
  intro H hO
  have hi3:((L.set j (q,(⟨c2,true⟩:Blk))).set i (r,⟨rgC q n 1 ((f+1) % n) (es.length+1),true⟩))[i]?=some (r,⟨rgC q n 1 ((f+1) % n) (es.length+1),true⟩):=List.getElem?_set_self (by rw[List.length_set]; exact hil)
  replace hO:St H (Γ++((L.set j (q,(⟨c2,true⟩:Blk))).set i (r,⟨rgC q n 1 ((f+1) % n) (es.length+1),true⟩))):=hO
  refine zaa zda ?_
  refine zaa zca ?_
  refine ld hO i hi3 (v:=int ((es.length+1:Nat):Int)) rfl ?_
  refine zaa (zub (by omega) (by omega)) ?_
  refine zaa zda ?_
  refine zaa zca ?_
  refine s1 hO i hi3 rfl (by simp[rgC]) ?_
  clear hO hi3
  intro H hO
  rw[List.set_set] at hO
  replace hO:St H (Γ++((L.set j (q,(⟨c2,true⟩:Blk))).set i (r,⟨[sl q 0 n 3,int ((f+1) % n:Nat),int (((es.length+1:Nat):Int) - 1),.bool false],true⟩))):=hO
  rw[show (((es.length+1:Nat):Int) - 1)=es.length by omega] at hO
  exact hyes a es rfl H c2 hs hO
def zgg(x:Int):Nat:=(max 1 (min x 16)).toNat
theorem zHD(x:Int):1≤zgg x∧zgg x≤16∧((zgg x:Nat):Int)=max 1 (min x 16):=by unfold zgg; omega
theorem zTH{z:List Value}(n:Nat)(h1:1≤n)(h2:n≤16):Rg z.length n 0 [] (repl n z):=by
 exact⟨h1,h2,by omega,by simp,zQh n z,by simp,fun j h=>by simp at h⟩
theorem zXA{x:Int}(hO:St H (Γ++L))(hk:∀ H' q r cs,Rg 1 (zgg x) 0 [] cs→St H' (Γ++(L++[(q,⟨cs,true⟩),(r,⟨rgC q (zgg x) 1 0 0,true⟩)]))→K (ptr r 0) H'):wCall P zId [int x] H K:=by
 apply zak; unfold zmh
 obtain⟨r1,r2,r3⟩:=zHD x
 refine zCa zQx ?_
 refine zCa zOC ?_
 rw[← r3]
 rw[show (zRb P 50).f (int (zgg x:Nat)) (int (zgg x:Nat)) H=zrk 1 16 [.nilIface] (int (zgg x:Nat)) (int (zgg x:Nat)) H from by kernel_rfl]
 refine zuv hO (by omega) (by omega) ?_
 clear hO
 intro q H hO
 refine zaa (show _=some (agg [sl q 0 (zgg x) 3,int 0,int 0,.bool false]) from by kernel_rfl) ?_
 refine zHa hO ?_
 clear hO
 intro r H hO
 refine hk H q r _ (zTH (z:=[.nilIface]) _ r1 r2) ?_
 rw[List.append_assoc,List.append_assoc] at hO
 exact hO
end J
set_option maxRecDepth 100000
namespace J
open Go Go.Ab
variable{H:Heap}{Γ Γ0 Γ2 Δ G L:List (Nat × Blk)}{K:VH}{v w x cv dv:Value}{xs ys zs bs b key ms:List Int}{j p q r o n k f wd:Nat}{e i:Int}{cs cs' c1:List Value}{l:List UInt8}{m:Mf}{t u:Tm}{es:List (List Value)}{el:List Value}
def zgd(m:Mf)(i:Int):Int × Int:=if ¬ znb m∨i < 0∨i ≥ m.cks.length then (0,0) else (i * m.ck,min m.ck (m.sz - i * m.ck))
theorem zFj(hr:znb m)(h0:0≤i)(h1:i < m.cks.length):0≤i * m.ck∧i * m.ck≤65536∧(i=(m.cks.length:Int) - 1→m.sz - i * m.ck≤m.ck∧0 < m.sz - i * m.ck)∧(i≠(m.cks.length:Int) - 1→m.ck≤m.sz - i * m.ck):=by
 obtain⟨_,_,_,s1,s2,k1,k2,_,hc,hn⟩:=hr
 unfold cnt at hc
 rw[if_neg (by omega)] at hc
 have hd:=Int.mul_ediv_add_emod (m.sz - 1) m.ck
 have hm1:=Int.emod_nonneg (m.sz - 1) (show m.ck≠0 by omega)
 have hm2:=Int.emod_lt_of_pos (m.sz - 1) (show 0 < m.ck by omega)
 have hdn:0≤(m.sz - 1) / m.ck:=Int.ediv_nonneg (by omega) (by omega)
 generalize (m.sz - 1) / m.ck=d at *
 generalize (m.sz - 1) % m.ck=e at *
 have hmul:∀ a c:Int,0≤a→a≤c→a * m.ck≤c * m.ck:=fun a c _ h=>Int.mul_le_mul_of_nonneg_right h (by omega)
 have e1:m.ck * d=d * m.ck:=Int.mul_comm _ _
 have b1:=hmul 0 i (by omega) h0
 have b2:=hmul i d h0 (by omega)
 refine⟨by omega,by omega,fun h=>?_,fun h=>?_⟩
 ·have:i=d:=by omega
  subst this
  omega
 ·have b3:=hmul (i+1) d (by omega) (by omega)
  rw[Int.add_mul,Int.one_mul] at b3
  omega
theorem zpr{t:TypeId}{c:Bool}{a b:Int}(h1:-9223372036854775808≤a * b)(h2:a * b≤9223372036854775807):(zma P .mul t c).f (int a) (int b)=some (int (a * b)):=by
 rw[zec _ _ rfl]
 show some (Value.int .i64 (zqc .i64 (a * b)))=_
 rw[zun h1 h2]
set_option maxHeartbeats 2000000 in
theorem zYA(ok:m.Ok)(hc:RdH Γ cv m.cks)(hO:St H Γ)(hk:∀ H',St H' Γ→K (.tuple [int (zgd m i).1,int (zgd m i).2].toArray) H'):wCall P zOf [agg (mfC m cv),int i] H K:=by
 apply zdo; unfold zfm
 have h36:=zMn (cv:=cv) ok.dl
 rw[zDo]
 refine nw hO.z ?_
 clear hO
 intro p1 H hO
 replace hO:St H (Γ++[(p1,⟨mfC m cv,true⟩)]):=hO
 refine zva (fun l' H'=>l'=[int i,ptr p1 0,.bool (decide (¬ znb m∨i < 0∨i ≥ m.cks.length))]∧St H' (Γ++[(p1,⟨mfC m cv,true⟩)])) ?_ ?_
 ·refine lw hO 0 rfl (zUa ok.dl) (by omega) ?_
  refine zmr ok hc.app hO ?_
  clear hO
  intro H hO
  refine zaa zmc ?_
  by_cases hr:znb m
  ·rw[decide_eq_true hr]
   refine zXa rfl ?_
   refine zaa zIa ?_
   refine zaa zVa ?_
   refine zna (fun h=>?_) (fun h=>?_)
   ·refine zaa (zNb h) ?_
    exact⟨by simp[h],hO⟩
   ·refine zaa zca ?_
    refine ld hO 0 rfl h36 ?_
    refine zCa hc.lenSl ?_
    refine zaa zMf ?_
    refine zaa (zuc h) ?_
    exact⟨by simp[h,hr],hO⟩
  ·rw[decide_eq_false hr]
   refine zsc rfl ?_
   refine zaa zwb ?_
   refine zaa zwb ?_
   exact⟨by simp[hr],hO⟩
 clear hO
 rintro l' H ⟨rfl,hO⟩
 try simp only[zia,zja]
 unfold zgd at hk
 refine zna (fun h=>?_) (fun h=>?_)
 ·rw[if_pos h] at hk
  exact hk H hO.left
 ·rw[if_neg h] at hk
  have hr:znb m:=Classical.byContradiction fun h1=>h (.inl h1)
  obtain⟨s1,s2,s3,s4⟩:=zFj (i:=i) hr (by omega) (by omega)
  have hr':=hr
  obtain⟨_,_,_,z1,z2,k1,k2,_⟩:=hr'
  refine zaa zca ?_
  refine ld hO 0 rfl (v:=int m.ck) rfl ?_
  refine zaa (zpr (by omega) (by omega)) ?_
  refine zaa zca ?_
  refine ld hO 0 rfl (v:=int m.ck) rfl ?_
  refine zaa zca ?_
  refine ld hO 0 rfl (v:=int m.sz) rfl ?_
  refine zaa (zub (by omega) (by omega)) ?_
  refine zCa zQx ?_
  exact hk H hO.left
set_option maxHeartbeats 2000000 in
theorem zZp(ok:m.Ok)(hc:RdH Γ cv m.cks)(hO:St H Γ)(hk:∀ H',St H' Γ→K (.tuple [int (zgd m i).1,int (zgd m i).2].toArray) H'):wCall P zgj [agg (mfC m cv),int i] H K:=by
 apply zrs; unfold zZq
 have h36:=zMn (cv:=cv) ok.dl
 rw[zDo]
 refine nw hO.z ?_
 clear hO
 intro p1 H hO
 replace hO:St H (Γ++[(p1,⟨mfC m cv,true⟩)]):=hO
 refine zva (fun l' H'=>l'=[int i,ptr p1 0,.bool (decide (¬ znb m∨i < 0∨i ≥ m.cks.length))]∧St H' (Γ++[(p1,⟨mfC m cv,true⟩)])) ?_ ?_
 ·refine lw hO 0 rfl (zUa ok.dl) (by omega) ?_
  refine zJi ok hc.app hO ?_
  clear hO
  intro H hO
  refine zaa zmc ?_
  by_cases hr:znb m
  ·rw[decide_eq_true hr]
   refine zXa rfl ?_
   refine zaa zIa ?_
   refine zaa zVa ?_
   refine zna (fun h=>?_) (fun h=>?_)
   ·refine zaa (zNb h) ?_
    exact⟨by simp[h],hO⟩
   ·refine zaa zca ?_
    refine ld hO 0 rfl h36 ?_
    refine zCa hc.lenSl ?_
    refine zaa zMf ?_
    refine zaa (zuc h) ?_
    exact⟨by simp[h,hr],hO⟩
  ·rw[decide_eq_false hr]
   refine zsc rfl ?_
   refine zaa zwb ?_
   refine zaa zwb ?_
   exact⟨by simp[hr],hO⟩
 clear hO
 rintro l' H ⟨rfl,hO⟩
 try simp only[zia,zja]
 unfold zgd at hk
 refine zna (fun h=>?_) (fun h=>?_)
 ·rw[if_pos h] at hk
  exact hk H hO.left
 ·rw[if_neg h] at hk
  have hr:znb m:=Classical.byContradiction fun h1=>h (.inl h1)
  obtain⟨s1,s2,s3,s4⟩:=zFj (i:=i) hr (by omega) (by omega)
  have hr':=hr
  obtain⟨_,_,_,z1,z2,k1,k2,_,_,hn⟩:=hr'
  refine zaa zca ?_
  refine ld hO 0 rfl h36 ?_
  refine zCa hc.lenSl ?_
  refine zaa (zub (by omega) (by omega)) ?_
  refine zaa zib ?_
  refine zna (fun h=>?_) (fun h=>?_)
  ·obtain⟨t1,t2⟩:=s3 h
   refine zaa zca ?_
   refine ld hO 0 rfl (v:=int m.ck) rfl ?_
   refine zaa (zpr (by omega) (by omega)) ?_
   refine zaa zca ?_
   refine ld hO 0 rfl (v:=int m.sz) rfl ?_
   refine zaa zca ?_
   refine ld hO 0 rfl (v:=int m.ck) rfl ?_
   refine zaa (zpr (by omega) (by omega)) ?_
   refine zaa (zub (by omega) (by omega)) ?_
   have:=hk H hO.left
   rw[show min m.ck (m.sz - i * m.ck)=m.sz - i * m.ck by omega] at this
   exact this
  ·have t1:=s4 h
   refine zaa zca ?_
   refine ld hO 0 rfl (v:=int m.ck) rfl ?_
   refine zaa (zpr (by omega) (by omega)) ?_
   refine zaa zca ?_
   refine ld hO 0 rfl (v:=int m.ck) rfl ?_
   have:=hk H hO.left
   rw[show min m.ck (m.sz - i * m.ck)=m.ck by omega] at this
   exact this
end J
set_option maxRecDepth 100000
namespace J
open Go Go.Ab
variable{H:Heap}{Γ Γ0 Γ2 Δ G L:List (Nat × Blk)}{K:VH}{v w x cv dv:Value}{xs ys zs bs b key ms:List Int}{j p q r o n k f wd pd st want:Nat}{e i:Int}{cs cs' c1:List Value}{l:List UInt8}{m:Mf}{t u:Tm}{es:List (List Value)}{el:List Value}{cks:List (List Int)}
end J
set_option maxRecDepth 100000
namespace J
open Go Go.Ab
variable{H:Heap}{Γ Γ0 Γ2 Δ G L:List (Nat × Blk)}{K:VH}{v w x cv dv:Value}{xs ys zs bs b key ms:List Int}{i j p q r o n k f wd pd st want:Nat}{e:Int}{cs cs' c1:List Value}{l:List UInt8}{m:Mf}{t u:Tm}{es:List (List Value)}{el:List Value}{cks:List (List Int)}
theorem zUH{H':Heap}{bk:Blk}{lo:Nat}(hO:St H Γ)(hi:Γ[i]?=some (p,bk))(n:Nat):zIu (zJa [ptr p lo]) H.next n:=by
 have h:=hO.lt (p,bk) (List.mem_of_getElem? hi)
 show zRi _ [p]=true
 rw[zpb]
 simp only[List.all_cons,List.all_nil,Bool.and_true]
 rw[blt_eq,decide_eq_true (show p < H.next from h)]
 rfl
end J
set_option maxRecDepth 100000
namespace J
open Go Go.Ab
variable{H:Heap}{Γ Γ0 Γ2 Δ G L:List (Nat × Blk)}{K:VH}{v w x cv dv:Value}{xs ys zs bs b key ms:List Int}{i j p q r o n k f wd pd st want:Nat}{e:Int}{cs cs' c1:List Value}{l:List UInt8}{m:Mf}{bv:Value}{bcs:List Value}{t u:Tm}{es:List (List Value)}{el:List Value}{cks:List (List Int)}
end J
set_option maxRecDepth 100000
namespace J
open Go Go.Ab
variable{H:Heap}{Γ Γ0 Γ2 Δ G L S T L0:List (Nat × Blk)}{K:VH}{v w x cv dv kv sv sp:Value}{xs ys zs bs b key ms:List Int}{i j p q r o n k f wd pd st want c:Nat}{e er:Int}{cs cs' c1 ck:List Value}{l:List UInt8}{m sd:Mf}{t u:Tm}{es:List (List Value)}{el:List Value}{cks:List (List Int)}{dn:Bool}
inductive Sn where
 | again (a:Int)
 | go (n:Int) (m:Mf)
 | body (a:Int) (bs:List Int)
 | fin
def NtR(S:List (Nat × Blk)):Sn→List Value→Prop
 | .again a,el=>el=[.iface 65 (agg [int a])]
 | .go n m,el=>∃ cv,el=[.iface 49 (agg (int n::mfC m cv))]∧RdH S cv m.cks∧m.Ok
 | .body a bs,el=>∃ v,el=[.iface 54 (agg [int a,v])]∧RdB S v bs∧By bs
 | .fin,el=>el=[.iface 56 (agg [])]
def PcR(S:List (Nat × Blk))(p:Int × List Int)(el:List Value):Prop:=∃ v,el=[int p.1,v]∧RdB S v p.2∧By p.2∧(p.2≠[]→Stay S v)
structure Ring where
 q:Nat
 r:Nat
 n:Nat
 f:Nat
 cs:List Value
 es:List (List Value)
variable{A B C:Ring}{r1 r2 r3:Nat}
end J
set_option maxRecDepth 100000
namespace J
open Go Go.Ab
variable{H:Heap}{Γ Γ0 Γ2 Δ G S:List (Nat × Blk)}{K:VH}{v w x fv:Value}{i l p q n token:Nat}{pt pos a:Int}{L:Mloc}{m:Mp}{sec1:List Int}
structure Ls where
 job:Int
 slot:Int
 tok:Nat
 gv:Nat
 p0:Int
 p1:Int
def lsC(s:Ls)(pm:Nat):List Value:=[int s.job,int s.slot,zsb .u64 s.tok,ptr pm 0,int s.p0,int s.p1,zsb .u64 s.gv]
def Ls.holds(s:Ls)(token:Nat):Prop:=s.tok≠0∧s.tok=token
instance {s:Ls}:Decidable (s.holds token):=by unfold Ls.holds; infer_instance
def Ls.part(s:Ls)(i:Int):Int:=if i < 0∨2≤i then -1 else if i=0 then s.p0 else s.p1
structure Ls.Ok (s:Ls):Prop where
 s0:0≤s.slot∧s.slot < 2
 p:0≤s.p0∧0≤s.p1
variable{s:Ls}
theorem zjx(hO:St H (Γ++MW L m))(hk:∀ H',St H' (Γ++MW L { m with who:=a })→K (int m.who) H'):wCall P zEf [ptr L.pm 0,int a] H K:=by
 apply zzq; unfold zIp
 refine zaa zda ?_
 refine zaa zca ?_
 refine zga hO (Γ.length+0) (zua rfl) (v:=int m.who) rfl ?_
 refine zaa zda ?_
 refine zaa zca ?_
 refine zNa hO (Γ.length+0) (zua rfl) rfl (show 0+2 < 4 by omega) rfl ?_
 clear hO
 intro H hO
 exact hk H hO.set_r
theorem zru{a b:Int}(hO:St H Γ)(hk:∀ H',St H' Γ→K (.bool (decide (n≠0))) H'):wCall P zQc [agg [int a,int b,zsb .u64 n]] H K:=by
 apply zbl; unfold zyi
 rw[zfd]
 refine zHa hO ?_
 clear hO
 intro p1 H hO
 refine zaa zca ?_
 refine zga hO (Γ.length+0) (zua rfl) (v:=zsb .u64 n) rfl ?_
 refine zaa zGb ?_
 rw[decide_eq_decide.2 (show ((n:Int)≠0)↔n≠0 by omega)]
 exact hk H hO.left
theorem zqr(hO:St H Γ)(hi:Γ[i]?=some (l,⟨lsC s p,true⟩))(hk:∀ H',St H' Γ→K (.bool (decide (s.holds token))) H'):wCall P zzc [ptr l 0,zsb .u64 token] H K:=by
 apply zgk; unfold zsh
 refine zaa zda ?_
 refine zaa zca ?_
 refine zMa hO i hi (cs:=[int s.job,int s.slot,zsb .u64 s.tok]) rfl rfl (by omega) ?_
 refine zru hO ?_
 clear hO
 intro H hO
 unfold Ls.holds at hk
 refine zna (fun h=>?_) (fun h=>?_)
 ·refine zaa zda ?_
  refine zaa zca ?_
  refine zaa zca ?_
  refine zga hO i hi (v:=zsb .u64 s.tok) rfl ?_
  refine zaa zUC ?_
  refine zaa (zNb h) ?_
  rw[decide_eq_decide.2 (show (s.tok=token)↔(s.tok≠0∧s.tok=token) from⟨fun h1=>⟨h,h1⟩,fun h1=>h1.2⟩)]
  exact hk H hO
 ·refine zaa (zuc h) ?_
  have:=hk H hO
  rw[decide_eq_false (show ¬ (s.tok≠0∧s.tok=token) from fun h1=>h h1.1)] at this
  exact this
theorem zfn{a:Int}(hO:St H Γ)(hi:Γ[i]?=some (l,⟨lsC s p,true⟩))(hk:∀ H',St H' Γ→K (int (s.part a)) H'):wCall P zUb [ptr l 0,int a] H K:=by
 apply zgl; unfold zDi
 unfold Ls.part at hk
 refine zva (fun l' H'=>l'=[ptr l 0,int a]∧¬ (a < 0∨2≤a)∧St H' Γ) ?_ ?_
 ·refine zaa zIa ?_
  refine zna (fun h=>?_) (fun h=>?_)
  ·refine zaa (zNb h) ?_
   refine zsc rfl ?_
   rw[if_pos (.inl h)] at hk
   exact hk H hO
  ·refine zaa zMf ?_
   refine zaa (zuc h) ?_
   refine zna (fun h1=>?_) (fun h1=>?_)
   ·rw[if_pos (.inr (by omega))] at hk
    exact hk H hO
   ·exact⟨rfl,by omega,hO⟩
 clear hO
 rintro l' H ⟨rfl,h,hO⟩
 try simp only[zia,zja]
 rw[if_neg h] at hk
 refine zaa zda ?_
 refine zaa zca ?_
 refine zaa (zqa (by omega) (by omega)) ?_
 by_cases h0:a=0
 ·subst h0
  rw[if_pos rfl] at hk
  refine zga hO i hi (v:=int s.p0) rfl ?_
  exact hk H hO
 ·have:a=1:=by omega
  subst this
  rw[if_neg (by omega)] at hk
  refine zga hO i hi (v:=int s.p1) rfl ?_
  exact hk H hO
theorem zrr:(lsC s p).all zSa=true:=rfl
theorem zsr{a:Int}(hO:St H (Γ++MW L m))(hi:Γ[i]?=some (l,⟨lsC s L.pm,true⟩))(hk:∀ H',St H' (Γ++MW L m)→K (int (m.size (s.part a))) H'):wCall P zSc [ptr l 0,int a] H K:=by
 apply zdl; unfold zAi
 refine zaa zda ?_
 refine zaa zca ?_
 refine zga hO i (zwa hi) (v:=ptr L.pm 0) rfl ?_
 refine zfn hO (zwa hi) ?_
 intro H2 hO2
 refine⟨same_at hO i (zwa hi) hO2 i (zwa hi) zrr,?_⟩
 refine zgr hO2 ?_
 exact hk H2 hO2
theorem zZA{a:Int}(ok:m.Ok)(hO:St H (Γ++MW L m))(hi:Γ[i]?=some (l,⟨lsC s L.pm,true⟩))(hk:∀ H' v cs,St H' ((Γ++MW L m)++zhb v cs)→OwnB v (m.all (s.part a)) cs→K v H'):wCall P zIe [ptr l 0,int a] H K:=by
 apply zbm; unfold zxj
 refine zaa zda ?_
 refine zaa zca ?_
 refine zga hO i (zwa hi) (v:=ptr L.pm 0) rfl ?_
 refine zfn hO (zwa hi) ?_
 intro H2 hO2
 refine⟨same_at hO i (zwa hi) hO2 i (zwa hi) zrr,?_⟩
 refine zEj ok hO2 ?_
 exact hk
def Ls.read(s:Ls)(m:Mp)(a pos:Int):List Int × Int:=if s.part a < 0 then (zeros,101) else m.read (s.part a) pos
theorem zxy{a:Int}(ok:m.Ok)(hO:St H (Γ++MW L m))(hi:Γ[i]?=some (l,⟨lsC s L.pm,true⟩))(hk:∀ H',St H' (Γ++MW L m)→K (.tuple [sec (s.read m a pos).1,int (s.read m a pos).2].toArray) H'):wCall P zoe [ptr l 0,int a,int pos] H K:=by
 apply zel; unfold zBi
 unfold Ls.read at hk
 rw[zcS]
 refine zHa hO ?_
 clear hO
 intro p6 H hO
 replace hO:=hO.rot
 refine zfn hO (zwa (zwa hi)) ?_
 clear hO
 intro H hO
 refine zaa zIa ?_
 refine zna (fun h=>?_) (fun h=>?_)
 ·rw[if_pos h] at hk
  refine zaa bS ?_
  refine zra hO (Γ.length+0) (zwa (zua rfl)) (by rw[zsa]; rfl) (by rw[zsa]; rfl) (zvd _) ?_
  clear hO
  intro H hO
  rw[List.set_append_left _ _ (by simp),Go.Ab.set_r] at hO
  refine zta hO (Γ.length+0) (zwa (zua rfl)) (by rw[zsa]; rfl) (by omega) ?_
  exact hk H hO.rot.left
 ·rw[if_neg h] at hk
  refine zaa zda ?_
  refine zaa zca ?_
  refine zga hO i (zwa (zwa hi)) (v:=ptr L.pm 0) rfl ?_
  refine zhr ok hO ?_
  clear hO
  intro H hO
  have hrl:=Mp.read_len ok (part:=s.part a) (pos:=pos)
  refine zaa zXt ?_
  refine zaa zYt ?_
  refine zra hO (Γ.length+0) (zwa (zua rfl)) (by rw[zsa]; rfl) (by rw[zsa]; exact hrl) (zvd _) ?_
  clear hO
  intro H hO
  rw[List.set_append_left _ _ (by simp),Go.Ab.set_r] at hO
  refine zta hO (Γ.length+0) (zwa (zua rfl)) (by rw[zsa]; exact hrl) (by omega) ?_
  exact hk H hO.rot.left
def Ls.as(s:Ls)(m:Mp)(token:Nat)(f:Mp→Mp × Int):Mp × Int:=if s.holds token then ({ (f { m with who:=s.job }).1 with who:=m.who },(f { m with who:=s.job }).2) else (m,161)
theorem zTv{f:Mp→Mp × Int}(hs:s.Ok)(hO:St H (Γ++MW L m))(hv:Mown L m)(hi:Γ[i]?=some (l,⟨lsC s L.pm,true⟩))
  (hdo:∀ H' K',St H' (Γ++MW L { m with who:=s.job })→(∀ H2 L',L.Eq L'→St H2 (Γ++MW L' (f { m with who:=s.job }).1)→Mown L' (f { m with who:=s.job }).1→K' (int (f { m with who:=s.job }).2) H2)→zmE P (zIf fv [int (s.part s.slot)]) H' K')
  (hk:∀ H' L',L.Eq L'→St H' (Γ++MW L' (s.as m token f).1)→Mown L' (s.as m token f).1→K (int (s.as m token f).2) H'):wCall P zSb [ptr l 0,zsb .u64 token,fv] H K:=by
 apply zVm; unfold zVg
 unfold Ls.as at hk
 refine zqr hO (zwa hi) ?_
 clear hO
 intro H hO
 refine zaa zmc ?_
 by_cases hh:s.holds token
 ·rw[if_pos hh] at hk
  refine zXa (by simp[hh]) ?_
  refine zaa zda ?_
  refine zaa zca ?_
  refine zga hO i (zwa hi) (v:=ptr L.pm 0) rfl ?_
  refine zaa zda ?_
  refine zaa zca ?_
  refine zaa zca ?_
  refine zga hO i (zwa hi) (v:=int s.job) rfl ?_
  refine zjx hO ?_
  clear hO
  intro H hO
  refine zaa zda ?_
  refine zaa zca ?_
  refine zga hO i (zwa hi) (v:=ptr L.pm 0) rfl ?_
  refine zaa zda ?_
  refine zaa zca ?_
  refine zaa zca ?_
  refine zga hO i (zwa hi) (v:=int s.slot) rfl ?_
  refine zaa zda ?_
  refine zaa zca ?_
  obtain⟨h0,h1⟩:=hs.s0
  refine zaa (zqa h0 h1) ?_
  have hp:(lsC s L.pm)[0+4+s.slot.toNat * 1]?=some (int (s.part s.slot)):=by
   unfold Ls.part
   rw[if_neg (by omega)]
   by_cases h2:s.slot=0
   ·rw[h2]; rfl
   ·have:s.slot=1:=by omega
    rw[this]; rfl
  refine zga hO i (zwa hi) hp ?_
  refine hdo H _ hO ?_
  clear hO
  intro H2 L' he hO hv'
  rw[← he.m]
  refine zjx hO ?_
  clear hO
  intro H hO
  exact hk H L' he hO ⟨hv'.d,hv'.o⟩
 ·rw[if_neg hh] at hk
  refine zsc (by simp[hh]) ?_
  exact hk H L Mloc.Eq.rfl' hO hv
theorem zVH(ok:m.Ok):({ m with who:=a }:Mp).Ok:=⟨ok.d,ok.s,ok.n⟩
theorem ziJ{N:Nat}(h:m.Sm N):({ m with who:=a }:Mp).Sm N:=h
theorem zeG(h:Mown L m):Mown L { m with who:=a }:=⟨h.d,h.o⟩
theorem zUv(hs:s.Ok)(ok:m.Ok)(hm:m.Sm 1000000)(hO:St H (Γ++MW L m))(hv:Mown L m)(hi:Γ[i]?=some (l,⟨lsC s L.pm,true⟩))
  (hk:∀ H' L',L.Eq L'→St H' (Γ++MW L' (s.as m token (·.erase (s.part s.slot) pos)).1)→Mown L' (s.as m token (·.erase (s.part s.slot) pos)).1→K (int (s.as m token (·.erase (s.part s.slot) pos)).2) H'):wCall P zMd [ptr l 0,zsb .u64 token,int pos] H K:=by
 apply zlk; unfold zxh
 refine zHa hO ?_
 clear hO
 intro p3 H hO
 refine zHa hO ?_
 clear hO
 intro p5 H hO
 replace hO:=(hO.as).rot
 replace hO:St H ((Γ++[(p3,⟨[ptr l 0],true⟩),(p5,⟨[int pos],true⟩)])++MW L m):=hO
 have hi':(Γ++[(p3,(⟨[ptr l 0],true⟩:Blk)),(p5,⟨[int pos],true⟩)])[i]?=some (l,⟨lsC s L.pm,true⟩):=zwa hi
 refine zga hO (Γ.length+0) (zwa (zua rfl)) (v:=ptr l 0) rfl ?_
 refine zTv (f:=(·.erase (s.part s.slot) pos)) hs hO hv hi' ?_ ?_
 ·clear hO
  intro H K' hO hK'
  show wCall P zcd [int (s.part s.slot),ptr p3 0,ptr p5 0] H K'
  apply zOi; unfold zag
  refine zga hO (Γ.length+0) (zwa (zua rfl)) (v:=ptr l 0) rfl ?_
  refine zaa zda ?_
  refine zaa zca ?_
  refine zga hO i (zwa hi') (v:=ptr L.pm 0) rfl ?_
  refine zga hO (Γ.length+1) (zwa (zua rfl)) (v:=int pos) rfl ?_
  exact zJv (zVH ok) (ziJ hm) hO (zeG hv) hK'
 ·clear hO
  intro H L' he hO hv'
  exact hk H L' he (St.mid hO) hv'
theorem zHs(hs:s.Ok)(ok:m.Ok)(hm:m.Sm 1000000)(hl:sec1.length=64)(hO:St H (Γ++MW L m))(hv:Mown L m)(hi:Γ[i]?=some (l,⟨lsC s L.pm,true⟩))
  (hk:∀ H' L',L.Eq L'→St H' (Γ++MW L' (s.as m token (·.program (s.part s.slot) pos sec1)).1)→Mown L' (s.as m token (·.program (s.part s.slot) pos sec1)).1→K (int (s.as m token (·.program (s.part s.slot) pos sec1)).2) H'):wCall P zbd [ptr l 0,zsb .u64 token,int pos,sec sec1] H K:=by
 apply zNi; unfold zZf
 refine zHa hO ?_
 clear hO
 intro p4 H hO
 refine zHa hO ?_
 clear hO
 intro p6 H hO
 replace hO:=hO.as
 refine zHa hO ?_
 clear hO
 intro p7 H hO
 replace hO:=(hO.as).rot
 replace hO:St H ((Γ++[(p4,⟨[ptr l 0],true⟩),(p6,⟨[int pos],true⟩),(p7,⟨by8 sec1,true⟩)])++MW L m):=hO
 have hi':(Γ++[(p4,(⟨[ptr l 0],true⟩:Blk)),(p6,⟨[int pos],true⟩),(p7,⟨by8 sec1,true⟩)])[i]?=some (l,⟨lsC s L.pm,true⟩):=zwa hi
 refine zga hO (Γ.length+0) (zwa (zua rfl)) (v:=ptr l 0) rfl ?_
 refine zTv (f:=(·.program (s.part s.slot) pos sec1)) hs hO hv hi' ?_ ?_
 ·clear hO
  intro H K' hO hK'
  show wCall P zAc [int (s.part s.slot),ptr p4 0,ptr p6 0,ptr p7 0] H K'
  apply zEh; unfold zZe
  refine zga hO (Γ.length+0) (zwa (zua rfl)) (v:=ptr l 0) rfl ?_
  refine zaa zda ?_
  refine zaa zca ?_
  refine zga hO i (zwa hi') (v:=ptr L.pm 0) rfl ?_
  refine zga hO (Γ.length+1) (zwa (zua rfl)) (v:=int pos) rfl ?_
  refine zta hO (Γ.length+2) (zwa (zua rfl)) (by rw[zsa]; exact hl) (by omega) ?_
  exact zjm (zVH ok) hl (ziJ hm) hO (zeG hv) hK'
 ·clear hO
  intro H L' he hO hv'
  exact hk H L' he (St.mid hO) hv'
theorem zyy(hs:s.Ok)(ok:m.Ok)(hm:m.Sm 1000000)(hO:St H (Γ++MW L m))(hv:Mown L m)(hi:Γ[i]?=some (l,⟨lsC s L.pm,true⟩))
  (hk:∀ H' L',L.Eq L'→St H' (Γ++MW L' (s.as m token (·.sync)).1)→Mown L' (s.as m token (·.sync)).1→K (int (s.as m token (·.sync)).2) H'):wCall P zpe [ptr l 0,zsb .u64 token] H K:=by
 apply zfl; unfold zCi
 refine zHa hO ?_
 clear hO
 intro p2 H hO
 replace hO:=hO.rot
 replace hO:St H ((Γ++[(p2,⟨[ptr l 0],true⟩)])++MW L m):=hO
 have hi':(Γ++[(p2,(⟨[ptr l 0],true⟩:Blk))])[i]?=some (l,⟨lsC s L.pm,true⟩):=zwa hi
 refine zga hO (Γ.length+0) (zwa (zua rfl)) (v:=ptr l 0) rfl ?_
 refine zTv (f:=(·.sync)) hs hO hv hi' ?_ ?_
 ·clear hO
  intro H K' hO hK'
  show wCall P zod [int (s.part s.slot),ptr p2 0] H K'
  apply zzj; unfold zMg
  refine zga hO (Γ.length+0) (zwa (zua rfl)) (v:=ptr l 0) rfl ?_
  refine zaa zda ?_
  refine zaa zca ?_
  refine zga hO i (zwa hi') (v:=ptr L.pm 0) rfl ?_
  exact zir (zVH ok) (ziJ hm) hO (zeG hv) hK'
 ·clear hO
  intro H L' he hO hv'
  exact hk H L' he (St.mid hO) hv'
def Ls.drop(s:Ls)(token:Nat):Ls:=if s.holds token then { s with job:=0,slot:=0,tok:=0 } else s
theorem zfG:(zxa P 116).f []=some (agg [int 0,int 0,zsb .u64 0]):=by kernel_rfl
theorem zaB{Γ1:List (Nat × Blk)}(hO:St H ((Γ++[(l,⟨lsC s p,true⟩)])++Γ1))(hk:∀ H',St H' ((Γ++[(l,⟨lsC (s.drop token) p,true⟩)])++Γ1)→K (.bool (decide (s.holds token))) H'):wCall P zke [ptr l 0,zsb .u64 token] H K:=by
 apply zZk; unfold zwi
 unfold Ls.drop at hk
 refine zqr hO (i:=Γ.length+0) (zwa (zua rfl)) ?_
 clear hO
 intro H hO
 refine zaa zmc ?_
 by_cases hh:s.holds token
 ·rw[if_pos hh,decide_eq_true hh] at hk
  refine zXa (by simp[hh]) ?_
  refine zaa zfG ?_
  refine zaa zda ?_
  refine zaa zca ?_
  refine zNc hO (Γ.length+0) (zwa (zua rfl)) rfl (show 0+0+3≤7 by omega) rfl ?_
  clear hO
  intro H hO
  rw[List.set_append_left _ _ (by simp),Go.Ab.set_r] at hO
  exact hk H hO
 ·rw[if_neg hh,decide_eq_false hh] at hk
  refine zsc (by simp[hh]) ?_
  exact hk H hO
end J
set_option maxRecDepth 100000
namespace J
open Go Go.Ab
variable{H:Heap}{Γ Γ2:List (Nat × Blk)}{K:VH}{v w x:Value}{xs ys bs:List Int}{j p:Nat}{e:Int}
theorem zzy(h:RdB Γ v xs){i n:Nat}(hn:i+n≤xs.length){mx:Option Value}(hm:mx=none∨mx=some (int ((i+n:Nat):Int))):∃ v',zWa 1 v (some (int i)) (some (int ((i+n:Nat):Int))) mx=some v'∧Inh v xs v' ((xs.drop i).take n):=by
 have hb:∀ len:Nat,i+n≤len→zkc len (some (int ((i+n:Nat):Int)))=some (i+n):=fun len hl=>by
  show (match leB 0 ((i+n:Nat):Int) with|true=>(match Nat.ble ((i+n:Nat):Int).toNat len with|true=>some ((i+n:Nat):Int).toNat|false=>none)|false=>none)=_
  rw[zbc,decide_eq_true (by omega)]
  simp only[Int.toNat_natCast]
  rw[Nat.ble_eq_true_of_le hl]
 have hlo:zkd (i+n) (some (int (i:Int)))=some i:=by
  show (match leB 0 (i:Int) with|true=>(match Nat.ble (i:Int).toNat (i+n) with|true=>some (i:Int).toNat|false=>none)|false=>none)=_
  rw[zbc,decide_eq_true (by omega)]
  simp only[Int.toNat_natCast]
  rw[Nat.ble_eq_true_of_le (by omega)]
 have hmx:∃ f,ztl (i+n) (some (int ((i+n:Nat):Int))) mx=some f:=by
  rcases hm with rfl|rfl
  ·exact⟨false,rfl⟩
  ·refine⟨true,?_⟩
   show (match leB 0 ((i+n:Nat):Int) with|true=>(match Nat.beq ((i+n:Nat):Int).toNat (i+n) with|true=>some true|false=>none)|false=>none)=_
   rw[zbc,decide_eq_true (by omega)]
   simp only[Int.toNat_natCast,Nat.beq_refl]
 obtain⟨f,hf⟩:=hmx
 rcases h with⟨rfl,rfl⟩|⟨p,o,c,rfl,hc,_⟩
 ·have h0:i=0∧n=0:=by simp at hn; omega
  obtain⟨rfl,rfl⟩:=h0
  rcases hm with rfl|rfl <;> exact⟨zBa,rfl,.none⟩
 ·have he:∃ c',(c'=2∨c'=3)∧zWa 1 (sl p o xs.length c) (some (int i)) (some (int ((i+n:Nat):Int))) mx=some (sl p (o+i) n c'):=by
   generalize int ((i+n:Nat):Int)=hh at hb hf ⊢
   generalize int (i:Int)=ii at hlo ⊢
   rcases hc with rfl|rfl
   ·refine⟨cond f 3 2,by cases f <;> simp,?_⟩
    simp[zWa,hb _ hn,hlo,hf,zCd]
   ·refine⟨cond (f || Nat.beq (i+n) xs.length) 3 2,by cases f || Nat.beq (i+n) xs.length <;> simp,?_⟩
    simp[zWa,hb _ hn,hlo,hf,zCd]
  obtain⟨c',hc',he⟩:=he
  refine⟨_,he,fun Γ' h=>?_⟩
  rcases h with⟨h,_⟩|⟨p',o',c'',heq,_,h⟩
  ·cases h
  cases heq
  have hl:((xs.drop i).take n).length=n:=by rw[List.length_take,List.length_drop]; omega
  refine .inr ⟨p,o+i,c',by rw[hl],hc',?_⟩
  rcases h with rfl|⟨j,b,h1,h2⟩
  ·exact .inl (by simp)
  ·refine .inr ⟨j,b,h1,?_⟩
   have:=congrArg (fun l=>(List.drop i l).take n) h2
   rw[List.drop_take,List.drop_drop,List.take_take,Nat.min_eq_left (by omega)] at this
   rw[hl,this,by8,by8,List.map_take,List.map_drop]
theorem zVv[lp:LpC]{l q2 q3:Nat}{I:Nat→Heap→Prop}(hI:∀ k H,I k H→∃ (Γ':List (Nat × Blk)) (j2 j3:Nat),St H Γ'∧Γ'[j2]?=some (q2,⟨[v],true⟩)∧Γ'[j3]?=some (q3,⟨[int 64],true⟩)∧RdB Γ' v bs)(hx:bs.length≤1000000)
  (hr:∀ k,64 * k < bs.length→∀ H vc,Inh v bs vc ((bs.drop (64 * k)).take 64)→I k H→wT P (.round l [vc] H) fun b H'=>b=.bool true∧I (k+1) H')
  (hO:I 0 H) (hk:∀ H',I ((bs.length+63) / 64) H'→K (.tuple [].toArray) H'):wCall P zab [zkn l,ptr q2 0,ptr q3 0] H K:=by
 apply zeg; unfold zbe
 refine zKe (fun k l' H'=>∃ y:Nat,y≤(bs.length+63) / 64∧k=(bs.length+63) / 64 - y∧l'=[zkn l,ptr q2 0,ptr q3 0,int ((64 * y:Nat):Int)]∧I y H') _ _ ?_ ((bs.length+63) / 64) _ _ ⟨0,by omega,rfl,rfl,hO⟩
 clear hO
 rintro k l' H ⟨y,hy,rfl,rfl,hO⟩
 unfold zed
 try simp only[zia,zja]
 obtain⟨Γ',j2,j3,hS,h2,h3,hv⟩:=hI y H hO
 refine zga hS j2 h2 rfl ?_
 refine zCa hv.lenSl ?_
 refine zaa zIa ?_
 refine zna (fun h=>?_) (fun h=>?_)
 ·have hyl:64 * y < bs.length:=by omega
  refine zga hS j3 h3 rfl ?_
  refine zga hS j2 h2 rfl ?_
  obtain⟨v1,e1,r1⟩:=zWw hv (show 64 * y≤bs.length by omega)
  refine zaa e1 ?_
  refine zCa (r1 _ hv).lenSl ?_
  refine zCa zQx ?_
  refine zga hS j2 h2 rfl ?_
  have hm:min (64:Int) ((bs.drop (64 * y)).length:Int)=((min 64 (bs.length - 64 * y):Nat):Int):=by rw[List.length_drop]; omega
  rw[hm]
  have hn:64 * y+min 64 (bs.length - 64 * y)≤bs.length:=by omega
  refine zaa (v:=int ((64 * y+min 64 (bs.length - 64 * y):Nat):Int)) (by rw[zYa (by omega) (by omega)]; congr 2) ?_
  refine zaa (v:=int ((64 * y+min 64 (bs.length - 64 * y):Nat):Int)) (by rw[zYa (by omega) (by omega)]; congr 2) ?_
  obtain⟨vc,e2,r2⟩:=zzy hv hn (mx:=some (int ((64 * y+min 64 (bs.length - 64 * y):Nat):Int))) (.inr rfl)
  refine zaa e2 ?_
  have e3:(bs.drop (64 * y)).take (min 64 (bs.length - 64 * y))=(bs.drop (64 * y)).take 64:=by
   by_cases h5:64≤bs.length - 64 * y
   ·rw[Nat.min_eq_left h5]
   ·rw[Nat.min_eq_right (by omega),List.take_of_length_le (by rw[List.length_drop]; omega),List.take_of_length_le (by rw[List.length_drop]; omega)]
  rw[e3] at r2
  refine zZC (zvF (hr y hyl H vc r2 hO) ?_)
  rintro b2 H2 ⟨rfl,hO2⟩
  obtain⟨Γ3,k2,k3,hS3,h23,h33,_⟩:=hI (y+1) H2 hO2
  refine zaa zmc ?_
  refine zXa rfl ?_
  refine zga hS3 k3 h33 rfl ?_
  refine zaa (v:=int ((64 * (y+1):Nat):Int)) (by rw[zYa (by omega) (by omega)]; congr 2) ?_
  exact⟨_,by omega,y+1,by omega,rfl,rfl,hO2⟩
 ·have ey:y=(bs.length+63) / 64:=by omega
  subst ey
  refine zKa rfl ?_
  exact hk _ hO
def zWv(c:List Int):List Int:=c++List.replicate (64 - c.length) 255
def zBd(n:Nat):Nat:=(n+63) / 64
def zxe(b:List Int):List (List Int):=(List.range (zBd b.length)).map fun k=>zWv ((b.drop (64 * k)).take 64)
def zXv(l:List (List Int)):List Value:=l.flatMap by8
theorem zkx{c:List Int}(h:c.length≤64):(zWv c).length=64:=by simp[zWv]; omega
theorem zpm(b:List Int):(zxe b).length=zBd b.length:=by simp[zxe]
theorem zID{b:List Int}:∀ s ∈ zxe b,s.length=64:=by
 intro s hs
 obtain⟨k,_,rfl⟩:=List.mem_map.1 hs
 exact zkx (by rw[List.length_take]; omega)
theorem zAy{b:List Int}{k:Nat}(h:k < zBd b.length):(zxe b).take (k+1)=(zxe b).take k++[zWv ((b.drop (64 * k)).take 64)]:=by
 rw[List.take_succ_eq_append_getElem (by rw[zpm]; exact h)]
 congr 2
 simp[zxe]
theorem zJD{c:List Int}(h:c.length≤64):(by8 blank).take 0++(by8 c++(by8 blank).drop (0+c.length))=by8 (zWv c):=by
 have e:(by8 blank).drop (0+c.length)=by8 (List.replicate (64 - c.length) 255):=by
  simp only[by8,blank,List.map_replicate,List.drop_replicate,Nat.zero_add]
 rw[e,List.take_zero,List.nil_append]
 simp[zWv,by8]
theorem zWH(g:Nat→Int)(H:Heap):(zoa P 105 1).f [(0,sec ((List.range 64).map g))] H=some (sl H.next 0 1 129,H.push (by8 ((List.range 64).map g))):=by kernel_rfl
theorem zjJ{s:List Int}(h:s.length=64)(H:Heap):(zoa P 105 1).f [(0,sec s)] H=some (sl H.next 0 1 129,H.push (by8 s)):=by
 obtain⟨g,rfl⟩:=zZt h
 exact zWH g H
theorem zhK:zc P 105=[zBa]:=by kernel_rfl
theorem zbB[lp:LpC]{q7 n:Nat}{vo vc:Value}{cs:List Value}{c:List Int}{X:Heap→Prop}(hO:St H ((Γ2++[(q7,⟨[vo],true⟩)])++zhb vo cs))(hv:Own 64 vo n cs)(hc:RdB Γ2 vc c)(hl:c.length≤64)(hn:n≤1000000)
  (hk:∀ H' vo',St H' ((Γ2++[(q7,⟨[vo'],true⟩)])++zhb vo' (cs++by8 (zWv c)))→Own 64 vo' (n+1) (cs++by8 (zWv c))→X H') :
  wCall P zzb [] H fun t19 H2=>
  zrc (zc P 45) H2 fun t9 H4=>
  opW (zka 64 t9 t19 H4) fun u H6=>
  opP (zhd 64 1 t9 none none none H6) fun t20=>
  opW (zTi 1 t20 vc H6) fun t22 H9=>
  opW (zba (ptr q7 0) H9) fun t24 H14=>
  opW (zpa 64 t9 H14) fun t25 H16=>
  opW ((zoa P 105 1).f [(0,t25)] H16) fun t26 H18=>
  opW (zEa 64 64 t24 t26 H18) fun t27 H20=>
  opW (zka 1 (ptr q7 0) t27 H20) fun u_2 H22=>X H22:=by
 refine zHf hO ?_
 clear hO
 intro H hO
 rw[zcS]
 refine zHa hO ?_
 clear hO
 intro p9 H hO
 refine zra hO (((Γ2++[(q7,(⟨[vo],true⟩:Blk))])++zhb vo cs).length+0) (zua rfl) (by rw[zsa]; rfl) (by rw[zsa]; rfl) (zvd _) ?_
 clear hO
 intro H hO
 replace hO:St H (((Γ2++[(q7,⟨[vo],true⟩)])++zhb vo cs)++[(p9,⟨by8 blank,true⟩)]):=hO.set_r
 refine zaa (zGt (n:=64) hO (((Γ2++[(q7,(⟨[vo],true⟩:Blk))])++zhb vo cs).length+0) (zua rfl) (by omega) (by show _≤(by8 blank).length; rw[zsa]; decide)) ?_
 refine zzF hO (i:=((Γ2++[(q7,(⟨[vo],true⟩:Blk))])++zhb vo cs).length+0) (zua rfl) hc.app.app.app (by omega) (by rw[zsa]; decide) ?_
 clear hO
 intro H hO
 replace hO:St H (((Γ2++[(q7,⟨[vo],true⟩)])++zhb vo cs)++[(p9,⟨(by8 blank).take 0++(by8 c++(by8 blank).drop (0+c.length)),true⟩)]):=hO.set_r
 rw[show (by8 blank).take 0++(by8 c++(by8 blank).drop (0+c.length))=by8 (zWv c) from zJD hl] at hO
 have hpl:=zkx hl
 refine zga hO (Γ2.length+0) (zwa (zwa (zua rfl))) rfl ?_
 refine zta hO (((Γ2++[(q7,(⟨[vo],true⟩:Blk))])++zhb vo cs).length+0) (zua rfl) (by rw[zsa]; exact hpl) (by omega) ?_
 replace hO:=hO.left
 refine zbb hO (zjJ hpl _) ?_
 clear hO
 intro q H hO
 refine zLe hO hv (by rw[zsa]; exact hpl) (by omega) (zvd _) (by omega) (by omega) ?_
 clear hO
 intro vo' H hO hv'
 obtain⟨a1,n1,c1,e1⟩:∃ a1 n1 c1,vo'=.slice a1 n1 c1:=by rcases hv' with⟨_,h,_⟩|⟨p,rfl|rfl,_⟩; omega; exact⟨_,_,_,rfl⟩; exact⟨_,_,_,rfl⟩
 refine zNa hO (Γ2.length+0) (zwa (zua rfl)) (by rw[e1]; rfl) (show 0 < 1 by omega) rfl ?_
 clear hO
 intro H hO
 rw[List.set_append_left _ _ (by simp),Go.Ab.set_r] at hO
 exact hk H vo' hO hv'
set_option maxHeartbeats 2000000 in
theorem zsu(hO:St H Γ)(hv:RdB Γ v bs)(hl:bs.length≤1000000)(hk:∀ (H':Heap) (v':Value),St H' (Γ++zhb v' (zXv (zxe bs)))→Own 64 v' (zxe bs).length (zXv (zxe bs))→K v' H'):wCall P zqe [v] H K:=by
 apply zeo; unfold zgm
 rw[zhK]
 refine zHa hO ?_
 clear hO
 intro q7 H hO
 apply zWg
 unfold zAe
 refine zHa hO ?_
 clear hO
 intro q2 H hO
 refine zHa hO ?_
 clear hO
 intro q3 H9 hO
 obtain⟨a1,n1,c1,e1⟩:=RdB.shape hv
 have hc1:zya v=[v]:=by rw[e1]; rfl
 rw[hc1] at hO
 refine zga hO (((Γ++[(q7,(⟨[zBa],true⟩:Blk))])++[(q2,(⟨[v],true⟩:Blk))]).length+0) (zua rfl) rfl ?_
 refine zaa zIa ?_
 refine zXa rfl ?_
 have hO2:St H9 (((Γ++[(q2,⟨[v],true⟩),(q3,⟨[int 64],true⟩)])++[(q7,⟨[zBa],true⟩)])++zhb zBa (zXv ((zxe bs).take 0))):=by
  show St H9 (((Γ++[(q2,⟨[v],true⟩),(q3,⟨[int 64],true⟩)])++[(q7,⟨[zBa],true⟩)])++[])
  rw[List.append_nil]
  have h5:St H9 ((Γ++[(q7,⟨[zBa],true⟩)])++[(q2,⟨[v],true⟩),(q3,⟨[int 64],true⟩)]):=by
   rw[List.append_assoc (_++[(q7,_)])] at hO; exact hO
  exact h5.rot
 have r2:∀ Δ,RdB ((Γ++[(q2,(⟨[v],true⟩:Blk)),(q3,⟨[int 64],true⟩)])++Δ) v bs:=fun Δ=>hv.app.app
 refine zYC (L:=lp0) hO2 (f:=zab) (args:=[zkn (Nat.succ H9.next),ptr q2 0,ptr q3 0]) rfl ?_
 intro T hT hag H0 hO0
 generalize hL:lpc (Nat.succ H9.next) _ lp0=L at hO0
 refine zVv (lp:=L) (l:=Nat.succ H9.next) (v:=v) (bs:=bs) (I:=fun k H'=>∃ vo,@St L H' (((Γ++[(q2,⟨[v],true⟩),(q3,⟨[int 64],true⟩)])++[(q7,⟨[vo],true⟩)])++zhb vo (zXv ((zxe bs).take k)))∧Own 64 vo (min k (zBd bs.length)) (zXv ((zxe bs).take k))) ?_ (by omega) ?_ ⟨zBa,hO0,.inl ⟨rfl,by omega,rfl⟩⟩ ?_
 ·rintro k H' ⟨vo,h1,h2⟩
  exact⟨_,_,_,h1,zwa (zwa (zua (k:=0) rfl)),zwa (zwa (zua (k:=1) rfl)),by rw[List.append_assoc]; exact r2 _⟩
 ·rintro k hkl H vc hvc ⟨vo,hOm,hvo⟩
  subst hL
  have hkn:k < zBd bs.length:=by unfold zBd; omega
  have hl63:((bs.drop (64 * k)).take 64).length≤64:=by rw[List.length_take]; omega
  refine zXC (n:=18) hOm hT hag rfl (by decide) ?_
  rw[zhl]
  unfold zEi
  refine zhA hOm ?_
  intro H2 hO2
  rw[Nat.min_eq_left (by omega)] at hvo
  refine zbB (lp:=lpc (Nat.succ H9.next) _ lp0) hO2 hvo (hvc _ (by have:=r2 []; rw[List.append_nil] at this; exact this)) hl63 (by have:zBd bs.length≤bs.length+63:=Nat.div_le_self _ _; omega) ?_
  intro H3 vo' hO3 hvo'
  have e4:zXv ((zxe bs).take k)++by8 (zWv ((bs.drop (64 * k)).take 64))=zXv ((zxe bs).take (k+1)):=by
   rw[zAy hkn]; simp[zXv]
  rw[e4] at hO3 hvo'
  refine zkF hO3 ?_
  intro H4 hO4
  refine⟨rfl,vo',hO4,?_⟩
  rw[Nat.min_eq_left (by omega)]
  exact hvo'
 ·rintro H2 ⟨vo,hO2,hvo⟩
  subst hL
  refine⟨.ready,_,by simp,hO2,?_⟩
  intro H3 hO3
  show opW _ _
  have e5:(zxe bs).take ((bs.length+63) / 64)=zxe bs:=List.take_of_length_le (by rw[zpm]; exact Nat.le_refl _)
  rw[e5] at hO3 hvo
  refine zga hO3 ((Γ++[(q2,(⟨[v],true⟩:Blk)),(q3,⟨[int 64],true⟩)]).length+0) (zwa (zua rfl)) rfl ?_
  refine hk _ vo ?_ ?_
  ·exact hO3.sub (List.Sublist.append (by rw[List.append_assoc]; exact List.sublist_append_left _ _) (List.Sublist.refl _))
  ·rw[zpm]
   have e6:min ((bs.length+63) / 64) (zBd bs.length)=zBd bs.length:=Nat.min_self _
   rw[e6] at hvo
   exact hvo
end J
set_option maxRecDepth 100000
namespace J
open Go Go.Ab
variable{H:Heap}{Γ Γ0 Γ2 Δ G L S T L0 X:List (Nat × Blk)}{K:VH}{v w x cv dv kv sv sp:Value}{xs ys zs bs b key ms:List Int}{i j p q r o n k f wd pd st want c:Nat}{e er:Int}{cs cs' c1 ck:List Value}{l:List UInt8}{m sd:Mf}{t u:Tm}{es:List (List Value)}{el:List Value}{cks:List (List Int)}{dn:Bool}{A B C:Ring}{r1 r2 r3:Nat}{F:List (Nat × Blk)}
def Ring.more(R:Ring)(cs':List Value)(el:List Value):Ring:=⟨R.q,R.r,R.n,R.f,cs',R.es++[el]⟩
theorem zKD(R:Ring):(R.more cs' el).es.length=R.es.length+1:=by simp[Ring.more]
def Ring.rest(R:Ring)(cs':List Value)(es':List (List Value)):Ring:=⟨R.q,R.r,R.n,(R.f+1) % R.n,cs',es'⟩
inductive Al {α β:Type} (R:α→β→Prop):List α→List β→Prop
 | nil:Al R [] []
 | cons {a b l m}:R a b→Al R l m→Al R (a::l) (b::m)
namespace Al
variable{α β:Type}{R R':α→β→Prop}{l l':List α}{m m':List β}
theorem len(h:Al R l m):l.length=m.length:=by
 induction h with
 | nil=>rfl
 | cons _ _ ih=>simp[ih]
theorem imp(hi:∀ a b,R a b→R' a b)(h:Al R l m):Al R' l m:=by
 induction h with
 | nil=>exact .nil
 | cons h _ ih=>exact .cons (hi _ _ h) ih
theorem app(h:Al R l m)(h':Al R l' m'):Al R (l++l') (m++m'):=by
 induction h with
 | nil=>exact h'
 | cons h _ ih=>exact .cons h ih
theorem one{a:α}{b:β}(h:R a b):Al R [a] [b]:=.cons h .nil
theorem all{p:β→Prop}(hp:∀ a b,R a b→p b)(h:Al R l m):∀ x ∈ m,p x:=by
 induction h with
 | nil=>intro x hx; cases hx
 | cons h _ ih=>intro x hx; rcases List.mem_cons.1 hx with rfl|hx; exact hp _ _ h; exact ih x hx
end Al
theorem PcR.app{p:Int × List Int}(h:PcR S p el):PcR (S++X) p el:=by
 obtain⟨v,h1,h2,h3,h4⟩:=h
 exact⟨v,h1,h2.app,h3,fun h=>(h4 h).app⟩
theorem NtR.app{s:Sn}(h:NtR S s el):NtR (S++X) s el:=by
 cases s with
 | again a=>exact h
 | go n m=>obtain⟨cv,h1,h2,h3⟩:=h; exact⟨cv,h1,h2.app,h3⟩
 | body a bs=>obtain⟨v,h1,h2,h3⟩:=h; exact⟨v,h1,h2.app,h3⟩
 | fin=>exact h
structure RgP (S:List (Nat × Blk)) (R:Ring) (l:List (Int × List Int)):Prop where
 rg:Rg 2 R.n R.f R.es R.cs
 al:Al (PcR S) l R.es
 le:∀ p ∈ l,p.2.length≤1000000
structure RgN (S:List (Nat × Blk)) (R:Ring) (l:List Sn):Prop where
 rg:Rg 1 R.n R.f R.es R.cs
 al:Al (NtR S) l R.es
theorem RgP.app{l}(h:RgP S A l):RgP (S++X) A l:=⟨h.rg,h.al.imp fun _ _=>PcR.app,h.le⟩
theorem RgN.app{l}(h:RgN S A l):RgN (S++X) A l:=⟨h.rg,h.al.imp fun _ _=>NtR.app⟩
theorem RgP.len{l}(h:RgP S A l):A.es.length=l.length:=h.al.len.symm
theorem RgN.len{l}(h:RgN S A l):A.es.length=l.length:=h.al.len.symm
theorem RgN.more{l}{s:Sn}(h:RgN S A l)(hg:Rg 1 A.n A.f (A.es++[el]) cs')(hs:NtR S s el):RgN S (A.more cs' el) (l++[s]):=⟨hg,h.al.app (.one hs)⟩
theorem RgP.more{l}{p:Int × List Int}(h:RgP S A l)(hg:Rg 2 A.n A.f (A.es++[el]) cs')(hs:PcR S p el)(hp:p.2.length≤1000000):RgP S (A.more cs' el) (l++[p]):=⟨hg,h.al.app (.one hs),fun q hq=>by
 rcases List.mem_append.1 hq with h1|h1
 ·exact h.le q h1
 ·rw[List.mem_singleton.1 h1]; exact hp⟩
theorem RgP.one{l}(h:RgP S A l):∀ e ∈ A.es,e.all oneCell=true:=h.al.all fun p el hp=>by
 obtain⟨v,rfl,h2,h3,_⟩:=hp
 obtain⟨a,n,c,rfl⟩:=h2.shape
 rfl
end J
set_option maxRecDepth 100000
namespace J
open Go Go.Ab
variable{H:Heap}{Γ Γ2 S X:List (Nat × Blk)}{K:VH}{v w x sv ssv:Value}{xs ys bs b:List Int}{j p i l r n nx wr sg token:Nat}{e er slot pt pos a:Int}{m:Mp}{L:Mloc}{s:Ls}{sd:Mf}{sec1:List Int}{ss:List (List Int)}
def Mp.Byt(m:Mp):Prop:=∀ c ∈ m.d.cells,By c.seen
theorem Dv.erase_byt{d:Dv}{a:Int}(h:∀ c ∈ d.cells,By c.seen):∀ c ∈ (d.erase a).1.cells,By c.seen:=by
 unfold Dv.erase
 split
 ·exact h
 split
 ·exact h
 split
 ·exact h
 split
 ·exact h
 intro c hc
 rcases List.mem_or_eq_of_mem_set hc with hc|rfl
 ·rcases List.mem_or_eq_of_mem_set hc with hc|rfl
  ·exact h c hc
  ·intro x hx
   simp only[Dv.cell] at hx
   rw[List.getD_eq_getElem?_getD] at hx
   by_cases hi:a.toNat < d.cells.length
   ·rw[List.getElem?_eq_getElem hi] at hx
    exact h _ (List.getElem_mem hi) x hx
   ·rw[List.getElem?_eq_none (by omega)] at hx
    have:x=0:=List.eq_of_mem_replicate hx
    omega
 ·intro x hx
  have:x=255:=List.eq_of_mem_replicate hx
  omega
theorem Dv.program_byt{d:Dv}{a:Int}(h:∀ c ∈ d.cells,By c.seen)(hs:By sec1):∀ c ∈ (d.program a sec1).1.cells,By c.seen:=by
 unfold Dv.program
 split
 ·exact h
 split
 ·exact h
 split
 ·exact h
 split
 ·exact h
 intro c hc
 rcases List.mem_or_eq_of_mem_set hc with hc|rfl
 ·exact h c hc
 ·exact hs
theorem zlx{o:Op}(h:m.Byt):(m.note o e).Byt:=by
 unfold Mp.note; split <;> exact h
theorem Mp.erase_byt(h:m.Byt):(m.erase pt pos).1.Byt:=by
 unfold Mp.erase
 split
 ·exact h
 ·exact zlx (m:={ m with d:=(m.d.erase (m.place pt pos).1).1 }) (Dv.erase_byt h)
theorem Mp.program_byt(h:m.Byt)(hs:By sec1):(m.program pt pos sec1).1.Byt:=by
 unfold Mp.program
 split
 ·exact h
 ·exact zlx (m:={ m with d:=(m.d.program (m.place pt pos).1 sec1).1 }) (Dv.program_byt h hs)
theorem Mp.sync_byt(h:m.Byt):m.sync.1.Byt:=by
 unfold Mp.sync Mp.Byt
 unfold Dv.sync
 split
 ·exact h
 split
 ·exact h
 show ∀ c ∈ zTa m.d.cells m.d.done,By c.seen
 have:∀ (l:List (Nat × List Int)) (cs:List Cell),(∀ c ∈ cs,By c.seen)→∀ c ∈ zTa cs l,By c.seen:=by
  intro l
  induction l with
  | nil=>intro cs h; exact h
  | cons x l ih=>
   intro cs h
   refine ih (zan cs x) ?_
   intro c hc
   rcases List.mem_or_eq_of_mem_set hc with hc|rfl
   ·exact h c hc
   ·show By (cs.getD x.1 zPb).seen
    rw[List.getD_eq_getElem?_getD]
    by_cases hi:x.1 < cs.length
    ·rw[List.getElem?_eq_getElem hi]; exact h _ (List.getElem_mem hi)
    ·rw[List.getElem?_eq_none (by omega)]
     intro y hy
     have:y=0:=List.eq_of_mem_replicate hy
     omega
 exact this _ _ h
theorem Mp.read_byt(h:m.Byt):By (m.read pt pos).1:=by
 have hz:By zeros:=fun y hy=>by have:y=0:=List.eq_of_mem_replicate hy; omega
 unfold Mp.read
 split
 ·exact hz
 ·unfold Dv.read
  split
  ·rename_i h1
   show By (m.d.cell _).seen
   obtain⟨hi,e⟩:=Dv.get h1
   rw[← e]
   exact h _ (List.getElem_mem hi)
  ·exact hz
theorem Mp.all_byt(h:m.Byt):By (m.all pt):=by
 intro x hx
 unfold Mp.all Mp.upto at hx
 obtain⟨i,_,hx⟩:=List.mem_flatMap.1 hx
 exact Mp.read_byt h x hx
structure MOk (m:Mp):Prop where
 ok:m.Ok
 b:m.Byt
theorem zgG{f:Mp→Mp × Int}(h:MOk m)(hf:∀ m,MOk m→MOk (f m).1):MOk (s.as m token f).1:=by
 unfold Ls.as
 split
 ·have:=hf { m with who:=s.job } ⟨zVH h.ok,h.b⟩
  exact⟨zVH this.ok,this.b⟩
 ·exact h
theorem zkJ{f:Mp→Mp × Int}{N:Nat}(h:m.Sm N)(hf:∀ m,m.Sm N→(f m).1.Sm (N+1)):(s.as m token f).1.Sm (N+1):=by
 unfold Ls.as
 split
 ·exact hf _ h
 ·exact h.mono (by omega)
structure Wr where
 s:Ls
 token:Nat
 slot:Int
 q:List Sn
 sd:Mf
 nx:Nat
 ss:List (List Int)
 wr:Nat
 sg:Nat
 er:Int
 m:Mp
def Wr.size(w:Wr):Nat:=w.m.size (w.s.part w.slot)
def Wr.put(w:Wr)(r:Mp × Int):Wr:={ w with m:=r.1,er:=r.2 }
def dirty(w:Wr)(y:Nat):Prop:=(w.s.read w.m w.slot y).2=0∧(w.s.read w.m w.slot y).1≠blank
instance {w:Wr} {y:Nat}:Decidable (dirty w y):=by unfold dirty; infer_instance
def Wr.look(w:Wr):Nat→Nat→Option Nat
 | 0,_=>none
 | n+1,y=>if dirty w y then some y else w.look n (y+1)
def Wr.erases(w:Wr)(y:Nat):Wr:=w.put (w.s.as w.m w.token (·.erase (w.s.part w.s.slot) y))
def Wr.wipe(w:Wr):Wr:=match w.look w.size 0 with
 | some y=>w.erases y
 | none=>{ w with sg:=2 }
def Wr.syncs(w:Wr):Wr:=w.put (w.s.as w.m w.token (·.sync))
def Wr.close(w:Wr):Wr:=if w.syncs.er≠0 then w.syncs else
 if ((w.syncs.m.all (w.s.part w.slot)).length:Int) < w.sd.sz∨sha ((w.syncs.m.all (w.s.part w.slot)).take w.sd.sz.toNat)≠w.sd.dg then { w.syncs with er:=153 } else { w.syncs with sg:=4 }
def Wr.fills(w:Wr)(x:List Int):Wr:=w.put (w.s.as w.m w.token (·.program (w.s.part w.s.slot) w.wr x))
def Wr.fill(w:Wr)(x:List Int)(xs:List (List Int)):Wr:=if (w.fills x).er=0 then { w.fills x with ss:=xs,wr:=w.wr+1 } else w.fills x
def Wr.begin(w:Wr)(m:Mf):Wr:=if ¬ znb m then { w with er:=192 } else if m.sz > 64 * (w.size:Int) then { w with er:=145 } else { w with sd:=m,sg:=1,er:=0 }
def Wr.body(w:Wr)(a:Int)(bs:List Int):Wr:=if a≠w.nx∨(zgd w.sd a).2=0∨(bs.length:Int)≠(zgd w.sd a).2 then { w with er:=192 } else { w with ss:=zxe bs,nx:=w.nx+1,er:=0 }
def Wr.heed(w:Wr)(n:Sn):Wr:=
 if w.sg=0 then (match n with|.go _ m=>w.begin m|_=>{ w with er:=192 })
 else match n with
  | .body a bs=>w.body a bs
  | .fin=>if w.nx < w.sd.cks.length then { w with er:=192 } else { w with sg:=3 }
  | _=>{ w with er:=192 }
def Wr.step(w:Wr):Bool × Wr:=
 if w.er≠0∨w.sg=4 then (false,w)
 else if w.sg=1 then (true,w.wipe)
 else if w.sg=3 then (true,w.close)
 else match w.ss with
  | x::xs=>(true,w.fill x xs)
  | []=>match w.q with
   | []=>(false,w)
   | n::q=>(true,({ w with q:=q }:Wr).heed n)
def wrC(l token:Nat)(slot:Int)(r:Nat)(sd:Mf)(sv:Value)(nx:Nat)(ssv:Value)(wr sg:Nat)(er:Int):List Value:=
 ptr l 0::zsb .u64 token::int slot::ptr r 0::(mfC sd sv++[int nx,ssv,int wr,int sg,int er])
theorem zlf(hd:sd.dg.length=32):(wrC l token slot r sd sv nx ssv wr sg er).length=46:=by
 unfold wrC; simp[zUa hd]
theorem ztu(hd:sd.dg.length=32)(k:Nat):(wrC l token slot r sd sv nx ssv wr sg er)[0+(41+k)]?=[int nx,ssv,int wr,int sg,int er][k]?:=by
 unfold wrC
 rw[show 0+(41+k)=(37+k)+4 by omega]
 show (mfC sd sv++[int nx,ssv,int wr,int sg,int er])[37+k]?=_
 rw[List.getElem?_append_right (by rw[zUa hd]; omega),zUa hd]
 congr 1; omega
theorem zcB(hd:sd.dg.length=32):(wrC l token slot r sd sv nx ssv wr sg er)[0+41]?=some (int nx):=ztu hd 0
theorem zdB(hd:sd.dg.length=32):(wrC l token slot r sd sv nx ssv wr sg er)[0+42]?=some ssv:=ztu hd 1
theorem zeB(hd:sd.dg.length=32):(wrC l token slot r sd sv nx ssv wr sg er)[0+43]?=some (int wr):=ztu hd 2
theorem zuu(hd:sd.dg.length=32):(wrC l token slot r sd sv nx ssv wr sg er)[0+44]?=some (int sg):=ztu hd 3
theorem zmx(hd:sd.dg.length=32):(wrC l token slot r sd sv nx ssv wr sg er)[0+45]?=some (int er):=ztu hd 4
theorem zhG(hd:sd.dg.length=32):(wrC l token slot r sd sv nx ssv wr sg er)[0+4+36]?=some sv:=by
 show (mfC sd sv++[int nx,ssv,int wr,int sg,int er])[36]?=_
 rw[List.getElem?_append_left (by rw[zUa hd]; omega)]
 exact zMn hd
theorem zXH(hd:sd.dg.length=32):((wrC l token slot r sd sv nx ssv wr sg er).drop (0+4)).take 37=mfC sd sv:=by
 unfold wrC
 show (mfC sd sv++[int nx,ssv,int wr,int sg,int er]).take 37=_
 exact List.take_left' (zUa hd)
theorem zYH(hd:sd.dg.length=32):((wrC l token slot r sd sv nx ssv wr sg er).drop (0+4+4)).take 32=by8 sd.dg:=by
 unfold wrC mfC
 show ((by8 sd.dg++[sv])++[int nx,ssv,int wr,int sg,int er]).take 32=_
 rw[List.append_assoc]
 exact List.take_left' (by rw[zsa]; exact hd)
theorem zGj(hd:sd.dg.length=32)(k:Nat)(v:Value):(wrC l token slot r sd sv nx ssv wr sg er).set (0+(41+k)) v=ptr l 0::zsb .u64 token::int slot::ptr r 0::(mfC sd sv++[int nx,ssv,int wr,int sg,int er].set k v):=by
 unfold wrC
 rw[show 0+(41+k)=(37+k)+4 by omega]
 show ptr l 0::zsb .u64 token::int slot::ptr r 0::((mfC sd sv++[int nx,ssv,int wr,int sg,int er]).set (37+k) v)=_
 rw[List.set_append_right _ _ (by rw[zUa hd]; omega),zUa hd,show 37+k - 37=k by omega]
theorem ziG(hd:sd.dg.length=32)(n:Nat):(wrC l token slot r sd sv nx ssv wr sg er).set (0+41) (int n)=wrC l token slot r sd sv n ssv wr sg er:=zGj hd 0 _
theorem zfB(hd:sd.dg.length=32)(v:Value):(wrC l token slot r sd sv nx ssv wr sg er).set (0+42) v=wrC l token slot r sd sv nx v wr sg er:=zGj hd 1 _
theorem zjG(hd:sd.dg.length=32)(n:Nat):(wrC l token slot r sd sv nx ssv wr sg er).set (0+43) (int n)=wrC l token slot r sd sv nx ssv n sg er:=zGj hd 2 _
theorem zIs(hd:sd.dg.length=32)(n:Nat):(wrC l token slot r sd sv nx ssv wr sg er).set (0+44) (int n)=wrC l token slot r sd sv nx ssv wr n er:=zGj hd 3 _
theorem zYv(hd:sd.dg.length=32)(n:Int):(wrC l token slot r sd sv nx ssv wr sg er).set (0+45) (int n)=wrC l token slot r sd sv nx ssv wr sg n:=zGj hd 4 _
theorem zgB{m2:Mf}{cv:Value}(hd:sd.dg.length=32)(h2:m2.dg.length=32):(wrC l token slot r sd sv nx ssv wr sg er).take (0+4)++(mfC m2 cv++(wrC l token slot r sd sv nx ssv wr sg er).drop (0+4+37))=wrC l token slot r m2 cv nx ssv wr sg er:=by
 unfold wrC
 show ptr l 0::zsb .u64 token::int slot::ptr r 0::(mfC m2 cv++(mfC sd sv++[int nx,ssv,int wr,int sg,int er]).drop 37)=_
 rw[List.drop_left' (zUa hd)]
def RdSec(S:List (Nat × Blk))(v:Value)(ss:List (List Int)):Prop:=
 (v=zBa∧ss=[])∨∃ (p k c j:Nat) (w:Bool) (all:List (List Int)),v=sl p (k * 64) ss.length c∧ss=all.drop k∧k≤all.length∧S[j]?=some (p,⟨zXv all,w⟩)∧(∀ x ∈ all,x.length=64)∧(c=128∨c=129)
theorem RdSec.app(h:RdSec S v ss):RdSec (S++X) v ss:=by
 rcases h with h|⟨p,k,c,j,w,all,h1,h2,h3,h4,h5⟩
 ·exact .inl h
 ·exact .inr ⟨p,k,c,j,w,all,h1,h2,h3,zwa h4,h5⟩
theorem RdSec.lenSl(h:RdSec S v ss):lenSl v H=some (int ss.length,H):=by
 rcases h with⟨rfl,rfl⟩|⟨p,k,c,j,w,all,rfl,_⟩ <;> rfl
theorem RdSec.one(h:RdSec S v ss):oneCell v=true:=by
 rcases h with⟨rfl,rfl⟩|⟨p,k,c,j,w,all,rfl,_⟩ <;> rfl
end J
set_option maxRecDepth 100000
namespace J
open Go Go.Ab
variable{H:Heap}{Γ Λ Δ S F X N:List (Nat × Blk)}{K:VH}{v:Value}{cs cs':List Value}{p o k n:Nat}{e pos:Int}{m:Mp}{L L':Mloc}{sd:Mf}{w:Wr}
theorem wld(hO:St H ((Γ++Λ)++Δ))(k:Nat){b:Bool}(hi:Λ[k]?=some (p,⟨cs,b⟩))(hv:cs[o]?=some v)(hk:K v H):opW (zba (ptr p o) H) K:=zga hO (Γ.length+k) (zwa (zua hi)) hv hk
theorem wst(hO:St H ((Γ++Λ)++Δ))(k:Nat)(hi:Λ[k]?=some (p,⟨cs,true⟩))(h1:oneCell v=true)(hn:o < cs.length)(hc:cs.set o v=cs')(hk:∀ H',St H' ((Γ++Λ.set k (p,⟨cs',true⟩))++Δ)→K undef H'):opW (zka 1 (ptr p o) v H) K:=by
 refine zNa hO (Γ.length+k) (zwa (zua hi)) h1 hn hc ?_
 intro H' hO'
 have hkl:=(List.getElem?_eq_some_iff.1 hi).1
 rw[List.set_append_left _ _ (by rw[List.length_append]; omega),Go.Ab.set_r] at hO'
 exact hk H' hO'
theorem toF(h:St H ((((S++F)++Λ)++Δ)++N)):St H (((S++(F++N))++Λ)++Δ):=h.perm (by
 classical exact List.perm_iff_count.2 fun _=>by simp only[List.count_append]; omega)
theorem zLD(h:St H (((S++(F++N))++Λ)++Δ)):St H (((S++F)++Λ)++Δ):=h.sub (by
 refine List.Sublist.append (List.Sublist.append (List.Sublist.append (List.Sublist.refl S) (List.sublist_append_left F N)) (List.Sublist.refl _)) (List.Sublist.refl _))
theorem toS(h:St H ((((S++F)++Λ)++Δ)++X)):St H ((((S++X)++F)++Λ)++Δ):=h.perm (by
 classical exact List.perm_iff_count.2 fun _=>by simp only[List.count_append]; omega)
structure Wl where
 A:Ring
 sv:Value
 ssv:Value
 l:Nat
 c:Nat
 L:Mloc
def wB(A:Ring)(l:Nat)(lc:List Value)(c:Nat)(wc:List Value):List (Nat × Blk):=
 [(A.q,⟨A.cs,true⟩),(A.r,⟨rgC A.q A.n 1 A.f A.es.length,true⟩),(l,⟨lc,true⟩),(c,⟨wc,true⟩)]
def Wl.wc(B:Wl)(w:Wr):List Value:=wrC B.l w.token w.slot B.A.r w.sd B.sv w.nx B.ssv w.wr w.sg w.er
def Wl.blk(B:Wl)(w:Wr):List (Nat × Blk):=wB B.A B.l (lsC w.s B.L.pm) B.c (B.wc w)
structure WrR (S:List (Nat × Blk)) (w:Wr) (B:Wl):Prop where
 q:RgN S B.A w.q
 sd:w.sd.Ok
 sv:RdH S B.sv w.sd.cks
 ss:RdSec S B.ssv w.ss
 sb:∀ x ∈ w.ss,By x
 s:w.s.Ok
 m:MOk w.m
 own:Mown B.L w.m
 nx:w.nx≤100
 wr:w.wr≤4096
structure Wl.Same (B B':Wl):Prop where
 r:B'.A.r=B.A.r
 q:B'.A.q=B.A.q
 n:B'.A.n=B.A.n
 l:B'.l=B.l
 c:B'.c=B.c
 L:B.L.Eq B'.L
variable{B B':Wl}
theorem Wl.Same.rfl':B.Same B:=⟨rfl,rfl,rfl,rfl,rfl,.rfl'⟩
theorem Wl.Same.trans{B2:Wl}(h:B.Same B')(h':B'.Same B2):B.Same B2:=⟨h'.r.trans h.r,h'.q.trans h.q,h'.n.trans h.n,h'.l.trans h.l,h'.c.trans h.c,h.L.trans h'.L⟩
theorem WrR.app(h:WrR S w B):WrR (S++X) w B:=⟨h.q.app,h.sd,h.sv.app,h.ss.app,h.sb,h.s,h.m,h.own,h.nx,h.wr⟩
def Wl.at(B:Wl)(L:Mloc):Wl:={ B with L:=L }
theorem Wl.same_at(h:B.L.Eq L):B.Same (B.at L):=⟨rfl,rfl,rfl,rfl,rfl,h⟩
theorem WrR.put(h:WrR S w B){r:Mp × Int}(hm:MOk r.1)(ho:Mown L r.1):WrR S (w.put r) (B.at L):=⟨h.q,h.sd,h.sv,h.ss,h.sb,h.s,hm,ho,h.nx,h.wr⟩
abbrev WSt(H:Heap)(S F:List (Nat × Blk))(w:Wr)(B:Wl):Prop:=St H (((S++F)++B.blk w)++MW B.L w.m)
theorem zhB{r:Mp × Int}(hd:w.sd.dg.length=32)(he:B.L.Eq L)(hO:St H (((S++F)++B.blk w)++MW L r.1))(hk:∀ H',WSt H' S F (w.put r) (B.at L)→K undef H'):opW (zka 1 (ptr B.c 45) (int r.2) H) K:=by
 have hw:WSt H S F { w with m:=r.1 } (B.at L):=by
  show St H (((S++F)++wB B.A B.l (lsC w.s L.pm) B.c (B.wc w))++MW L r.1)
  rw[he.m]
  exact hO
 refine wst hw 3 (o:=0+45) rfl rfl (by rw[Wl.wc,zlf hd]; omega) (zYv hd _) ?_
 exact hk
theorem zZv(B:Wl)(w:Wr):((S++F)++B.blk w)[(S++F).length+2]?=some (B.l,⟨lsC w.s B.L.pm,true⟩):=zua rfl
theorem zHj(hR:WrR S w B)(hO:WSt H S F w B)(hk:K (int w.er) H):wCall P zrb [ptr B.c 0] H K:=by
 apply zYk; unfold zvi
 refine zaa zda ?_
 refine zaa zca ?_
 refine wld hO 3 rfl (zmx hR.sd.dl) ?_
 exact hk
theorem zqm(hR:WrR S w B)(hO:WSt H S F w B)(hk:K (int w.wr) H):wCall P zOb [ptr B.c 0] H K:=by
 apply zii; unfold znf
 refine zaa zda ?_
 refine zaa zca ?_
 refine wld hO 3 rfl (zeB hR.sd.dl) ?_
 exact hk
theorem zMe(hR:WrR S w B)(hO:WSt H S F w B)(hk:K (.bool (decide (w.sg=4))) H):wCall P zRa [ptr B.c 0] H K:=by
 apply zZj; unfold zlh
 refine zaa zda ?_
 refine zaa zca ?_
 refine wld hO 3 rfl (zuu hR.sd.dl) ?_
 refine zaa zib ?_
 rw[decide_eq_decide.2 (show ((w.sg:Int)=4)↔w.sg=4 by omega)]
 exact hk
theorem ziB:∀ m,MOk m→MOk (m.erase pos e).1:=fun m h=>⟨Mp.erase_ok h.ok,Mp.erase_byt h.b⟩
theorem znx:∀ m,MOk m→MOk m.sync.1:=fun m h=>⟨Mp.sync_ok h.ok,Mp.sync_byt h.b⟩
theorem zaq{x:List Int}(hl:x.length=64)(hb:By x):∀ m,MOk m→MOk (m.program pos e x).1:=fun m h=>⟨Mp.program_ok h.ok hl,Mp.program_byt h.b hb⟩
theorem Ls.read_len{s:Ls}{a:Int}(ok:m.Ok):(s.read m a pos).1.length=64:=by
 unfold Ls.read
 split
 ·rfl
 ·exact Mp.read_len ok
set_option maxHeartbeats 1000000 in
theorem zjB(hR:WrR S w B)(hm:w.m.Sm 1000000)(hO:WSt H S F w B)(hk:∀ H' B',B.Same B'→WrR S w.wipe B'→WSt H' S F w.wipe B'→K (.tuple [].toArray) H'):wCall P zxc [ptr B.c 0] H K:=by
 apply zck; unfold zqh
 have hd:=hR.sd.dl
 refine zaa zda ?_
 refine zaa zca ?_
 refine wld hO 3 rfl (v:=ptr B.l 0) rfl ?_
 refine zaa zda ?_
 refine zaa zca ?_
 refine wld hO 3 rfl (v:=int w.slot) rfl ?_
 refine zsr hO (zZv B w) ?_
 clear hO
 intro H hO
 unfold Wr.wipe at hk
 refine zph (fun k l' H'=>∃ y:Nat,y≤w.size∧k=w.size - y∧l'=[ptr B.c 0,int w.size,int y]∧w.look w.size 0=w.look (w.size - y) y∧WSt H' S F w B) _ _ ?_ w.size _ _ ⟨0,by omega,by omega,rfl,rfl,hO⟩
 clear hO
 rintro k l' H ⟨y,hy,rfl,rfl,hlook,hO⟩
 unfold zsf
 try simp only[zia,zja]
 refine zaa zIa ?_
 refine zna (fun h=>?_) (fun h=>?_)
 ·have hyl:y < w.size:=by omega
  have hlook:w.look w.size 0=if dirty w y then some y else w.look (w.size - (y+1)) (y+1):=by
   rw[hlook,show w.size - y=(w.size - (y+1))+1 by omega]; rfl
  refine zaa zda ?_
  refine zaa zca ?_
  refine wld hO 3 rfl (v:=ptr B.l 0) rfl ?_
  refine zaa zda ?_
  refine zaa zca ?_
  refine wld hO 3 rfl (v:=int w.slot) rfl ?_
  refine zxy hR.m.ok hO (zZv B w) ?_
  clear hO
  intro H hO
  have hrl:=Ls.read_len (s:=w.s) (a:=w.slot) (pos:=y) hR.m.ok
  refine zaa zXt ?_
  refine zaa zYt ?_
  rw[zcS]
  refine zHa hO ?_
  clear hO
  intro p3 H hO
  refine zra hO (_+0) (zua rfl) (by rw[zsa]; rfl) (by rw[zsa]; exact hrl) (zvd _) ?_
  clear hO
  intro H hO
  replace hO:=hO.set_r
  replace hO:St H (((((S++F)++B.blk w)++MW B.L w.m))++[(p3,⟨by8 (w.s.read w.m w.slot y).1,true⟩)]):=hO
  refine zva (fun l' H'=>l'=[ptr B.c 0,int y,int w.size,int y,.bool (decide (dirty w y))]∧WSt H' S F w B) ?_ ?_
  ·refine zaa zib ?_
   refine zna (fun h1=>?_) (fun h1=>?_)
   ·refine zta hO (_+0) (zua rfl) (by rw[zsa]; exact hrl) (by omega) ?_
    refine zHf hO ?_
    intro H2 hO2
    refine⟨same_at hO (_+0) (zua rfl) hO2 (_+0) (zua rfl) (zfr _),?_⟩
    refine zaa (neS false hrl rfl) ?_
    refine zaa (zNb h1) ?_
    exact⟨by simp[dirty,h1],hO2.left⟩
   ·refine zaa (zuc h1) ?_
    exact⟨by simp[dirty,h1],hO.left⟩
  clear hO
  rintro l' H ⟨rfl,hO⟩
  try simp only[zia,zja]
  refine zna (fun h1=>?_) (fun h1=>?_)
  ·rw[if_pos h1] at hlook
   rw[hlook] at hk
   refine zaa zda ?_
   refine zaa zca ?_
   refine wld hO 3 rfl (v:=ptr B.l 0) rfl ?_
   refine zaa zda ?_
   refine zaa zca ?_
   refine wld hO 3 rfl (v:=zsb .u64 w.token) rfl ?_
   refine zUv hR.s hR.m.ok hm hO hR.own (zZv B w) ?_
   clear hO
   intro H L' he hO hv
   refine zaa zda ?_
   refine zaa zca ?_
   refine zhB hd he hO ?_
   clear hO
   intro H hO
   exact hk H (B.at L') (Wl.same_at he) (hR.put (zgG hR.m ziB) hv) hO
  ·rw[if_neg h1] at hlook
   refine zaa (zYa (by omega) (by have:=Mp.size_le hR.m.ok (part:=w.s.part w.slot); unfold Wr.size at hyl; omega)) ?_
   exact⟨_,by omega,y+1,by omega,rfl,rfl,hlook,hO⟩
 ·have ey:y=w.size:=by omega
  subst ey
  rw[Nat.sub_self] at hlook
  have hlook:w.look w.size 0=none:=hlook
  rw[hlook] at hk
  refine zKa rfl ?_
  try simp only[zia,zja]
  refine zaa zda ?_
  refine zaa zca ?_
  refine wst hO 3 (o:=0+44) rfl rfl (by rw[Wl.wc,zlf hd]; omega) (zIs hd 2) ?_
  clear hO
  intro H hO
  exact hk H B .rfl' ⟨hR.q,hR.sd,hR.sv,hR.ss,hR.sb,hR.s,hR.m,hR.own,hR.nx,hR.wr⟩ hO
end J
