/- texts of the proof, one behind the other -/
import Derived.Test.YtmnbcjhjkahajaaDoorUC
set_option linter.unusedSectionVars false
set_option linter.unusedVariables false
set_option linter.unusedSimpArgs false
set_option maxRecDepth 100000
namespace J
open Go Go.Ab
variable{H:Heap}{Γ Γ0 Γ2 Δ G:List (Nat × Blk)}{K:VH}{v w x:Value}{xs ys zs bs b data:List Int}{j p pd pz:Nat}{e:Int}{cs:List Value}
abbrev u64(n:Nat):Value:=zbb .u64 n
theorem zdp{t:TypeId}{c:Bool}{a b:Nat}(hb:0 < b)(ha:a < 9223372036854775807):(zla P .quo t c).f (int a) (int b)=some (int ((a / b:Nat):Int)):=by
 rw[zSb _ _ rfl]
 show (match eqB (b:Int) 0 with|true=>none|false=>some (Value.int .i64 (zBb .i64 ((a:Int).tdiv b))))=_
 rw[zUf,decide_eq_false (by omega)]
 show some (Value.int .i64 (zBb .i64 ((a / b:Nat):Int)))=_
 have h1:((a / b:Nat):Int)≤(a:Int):=Int.ofNat_le.2 (Nat.div_le_self a b)
 have h2:(0:Int)≤((a / b:Nat):Int):=Int.natCast_nonneg _
 generalize ((a / b:Nat):Int)=q at *
 rw[zel (by omega) (by omega)]
end J
set_option maxRecDepth 100000
namespace J
open Go Go.Ab
variable{H:Heap}{Γ Γ0 Γ2 Δ G:List (Nat × Blk)}{K:VH}{v w x:Value}{xs ys zs bs b data:List Int}{j p pd pz:Nat}{e:Int}{cs:List Value}
end J
set_option maxRecDepth 100000
namespace J
open Go Go.Ab
variable{H:Heap}{Γ Γ0 Γ2 Δ G:List (Nat × Blk)}{K:VH}{v w x:Value}{xs ys zs bs b data:List Int}{j p pd pz:Nat}{e:Int}{cs:List Value}
end J
set_option maxRecDepth 100000
namespace J
open Go Go.Ab
variable{H:Heap}{Γ:List (Nat × Blk)}{K:VH}{v w x:Value}{xs ys:List Int}
end J
set_option maxRecDepth 100000
namespace J
open Go Go.Ab
variable{H:Heap}{Γ:List (Nat × Blk)}{K:VH}{v w x:Value}{xs ys:List Int}{j p:Nat}{e:Int}
end J
set_option maxRecDepth 100000
namespace J
open Go Go.Ab
variable{H:Heap}{Γ:List (Nat × Blk)}{K:VH}{v w x:Value}{xs ys:List Int}{j p:Nat}{e:Int}
end J
set_option linter.unusedSectionVars false
set_option maxRecDepth 100000
namespace J
open Go Go.Ab
variable{H:Heap}{Γ Γ0 Γ2 Δ G L:List (Nat × Blk)}{K:VH}{v w x:Value}{xs ys zs bs b key ms:List Int}{j p q o n k:Nat}{e:Int}{cs cs':List Value}
section rules
variable[LpC]
theorem _root_.Go.Ab.St.z(h:St H Γ):St H (Γ++[]):=by rw[List.append_nil]; exact h
theorem _root_.Go.Ab.St.as{A B:List (Nat × Blk)}(h:St H ((Γ++A)++B)):St H (Γ++(A++B)):=by rw[List.append_assoc] at h; exact h
theorem nw(h:St H (Γ++L))(hk:∀ p H',St H' (Γ++(L++[(p,⟨cs,true⟩)]))→K (ptr p 0) H'):zIc cs H K:=
 zyb h fun p H' hO=>hk p H' hO.as
theorem s1{K:VH}(h:St H (Γ++L))(k:Nat)(hi:L[k]?=some (p,⟨cs,true⟩))(h1:oneCell v=true)(hn:o < cs.length)(hk:∀ H',St H' (Γ++L.set k (p,⟨cs.set o v,true⟩))→K undef H'):opW (zma 1 (ptr p o) v H) K:=
 zYa h (Γ.length+k) (zEa hi) h1 hn rfl fun H' hO=>hk H' hO.set_r
theorem sw{K:VH}{new:List Value}(h:St H (Γ++L))(k:Nat)(hi:L[k]?=some (p,⟨cs,true⟩))(hn:cs.length=n)(hl:new.length=n)(h1:new.all oneCell=true)(hk:∀ H',St H' (Γ++L.set k (p,⟨new,true⟩))→K undef H'):opW (zma n (ptr p 0) (agg new) H) K:=
 zLa h (Γ.length+k) (zEa hi) hn hl h1 fun H' hO=>hk H' hO.set_r
theorem lw{K:VH}{b:Bool}(h:St H (Γ++L))(k:Nat)(hi:L[k]?=some (p,⟨cs,b⟩))(hn:cs.length=n)(hp:0 < n)(hk:K (agg cs) H):opW (zka n (ptr p 0) H) K:=
 zlb h (Γ.length+k) (zEa hi) hn hp hk
theorem sar(h:St H (Γ++L))(k:Nat)(hi:L[k]?=some (p,⟨cs,true⟩))(hn:cs.length=n)(hp:0 < n):zcb n 1 (ptr p 0) none none none H=some (sl p 0 n 3):=
 zdf h (Γ.length+k) (zEa hi) hp (by show 0+n≤cs.length; omega)
theorem zVs{b:Bool}(k:Nat)(hi:L[k]?=some (p,⟨by8 xs,b⟩)){c:Nat}(hc:c=2∨c=3)(hn:xs.length=n):RdB (Γ++L) (sl p 0 n c) xs:=
 .inr ⟨p,0,c,by rw[hn],hc,.inr ⟨Γ.length+k,_,zEa hi,by rw[List.drop_zero]; exact List.take_of_length_le (by simp)⟩⟩
theorem kp{q o n c:Nat}{K:VH}(hO:St H (Γ++L))(k:Nat)(hi:L[k]?=some (q,⟨cs,true⟩))(hn:0 < n)(hk:K (sl q o n c) H):opW (zlg (sl q o n c) H) K:=by
 have hg:H.get q=some ⟨cs,true⟩:=hO.at _ (zEa hi) (.inl rfl)
 refine zra ?_ hk
 have hb:Nat.beq n 0=false:=by
  cases hb:Nat.beq n 0 with
  | false=>rfl
  | true=>have:=Nat.eq_of_beq_eq_true hb; omega
 unfold zlg
 simp only[hb,hg]
 have:Heap.mayWrite H q ⟨cs,true⟩=true:=by unfold Heap.mayWrite; rw[hO.fl]; rfl
 rw[this]
theorem zzq{A B:List (Nat × Blk)}(h:St H (Γ++(A++B))):St H (Γ++A):=by rw[← List.append_assoc] at h; exact h.left
theorem zRy{A B:List (Nat × Blk)}(h:St H (Γ++(A++B))):St H (Γ++B):=by rw[← List.append_assoc] at h; exact St.mid h
theorem zAq{i:Nat}{K:VH}{c:Nat}(hO:St H Γ)(hi:Γ[i]?=some (q,⟨cs,true⟩))(hv:RdB Γ v ys)(hn:ys.length≤n)(hl:o+n≤cs.length)
  (hk:∀ H',St H' (Γ.set i (q,⟨cs.take o++(by8 ys++cs.drop (o+ys.length)),true⟩))→K (int ys.length) H'):opW (zSf 1 (sl q o n c) v H) K:=by
 obtain⟨H',hw,hs⟩:=ztn hO (o:=o) (vs:=by8 ys) hi (by simp; omega) (by simp[oneCell])
 unfold zSf
 simp only[hv.lenA]
 have hm:Nat.min ys.length n=ys.length:=Nat.min_eq_left hn
 rw[hm]
 cases hb:Nat.beq ys.length 0 with
 | true=>
  have h0:=Nat.eq_of_beq_eq_true hb
  have:ys=[]:=List.length_eq_zero_iff.1 h0
  subst this
  have e:cs.take o++(by8 []++cs.drop (o+([]:List Int).length))=cs:=by
   show cs.take o++([]++cs.drop (o+0))=cs
   simp
  refine zra (show _=some (int (0:Nat),H) from rfl) (hk H ?_)
  rw[e,zpw hi]; exact hO
 | false=>
  simp only[Bool.false_eq_true,if_false]
  rw[hv.elems hO]
  simp only
  rw[hw]
  refine zra (show some (Value.int .i64 ((ys.length:Nat):Int),H')=_ from rfl) ?_
  rw[List.length_map] at hs
  exact hk _ hs
end rules
end J
set_option maxRecDepth 100000
namespace J
open Go Go.Ab
variable{H:Heap}{Γ Γ0 Γ2 Δ G L:List (Nat × Blk)}{K:VH}{v w x:Value}{xs ys zs bs b key ms:List Int}{j p q o n k:Nat}{e:Int}{cs cs':List Value}
def zGl(k:List Int):List Int:=if 64 < k.length then sha k else k
def zSy(x:Int)(w:Nat):Int:=((x.toNat ^^^ w:Nat):Int)
def zup(k:List Int)(w:Nat):List Int:=(List.range 64).map fun i=>zSy ((zGl k).getD i 0) w
def zNu(k m:List Int):List Int:=sha (zup k 92++sha (zup k 54++m))
theorem zQe{m:List Int}:(sha m).length=32:=rfl
theorem zOu{m:List Int}:∀ x ∈ sha m,0≤x∧x≤255:=by
 intro x hx
 obtain⟨a,_,hx⟩:=List.mem_flatMap.1 hx
 have hm:∀ n:Nat,0≤((n % 256:Nat):Int)∧((n % 256:Nat):Int)≤255:=fun n=>by omega
 unfold be4 at hx
 simp only[List.mem_cons,List.not_mem_nil,or_false] at hx
 rcases hx with rfl|rfl|rfl|rfl <;> exact hm _
theorem zCr(k:List Int):(zGl k).length≤64:=by
 unfold zGl
 split
 ·rw[zQe]; omega
 ·omega
theorem zBq(hb:∀ x ∈ key,0≤x∧x≤255):∀ x ∈ zGl key,0≤x∧x≤255:=by
 unfold zGl
 split
 ·exact zOu
 ·exact hb
theorem zwc{k:List Int}{w:Nat}:(zup k w).length=64:=by simp[zup]
theorem zTy{x:Int}{w:Nat}(hx:x.toNat < 256)(hw:w < 256):0≤zSy x w∧zSy x w≤255:=by
 have:=Nat.xor_lt_two_pow (n:=8) hx hw
 unfold zSy
 omega
theorem zQn{w:Nat}(hw:w < 256)(hb:∀ x ∈ key,0≤x∧x≤255):∀ x ∈ zup key w,0≤x∧x≤255:=by
 intro x hx
 obtain⟨i,_,rfl⟩:=List.mem_map.1 hx
 exact zTy (zPe (zBq hb) i) hw
def zUy(k:List Int):List Int:=zGl k++List.replicate (64 - (zGl k).length) 0
theorem zOi{k:List Int}:(zUy k).length=64:=by have:=zCr k; simp[zUy]; omega
theorem zPu{k:List Int}{i:Nat}:(zUy k).getD i 0=(zGl k).getD i 0:=by
 unfold zUy
 rw[List.getD_eq_getElem?_getD,List.getD_eq_getElem?_getD]
 by_cases h:i < (zGl k).length
 ·rw[List.getElem?_append_left h]
 ·rw[List.getElem?_append_right (by omega),List.getElem?_eq_none (l:=zGl k) (by omega),List.getElem?_replicate]
  split <;> rfl
def zCq(k:List Int)(w y:Nat):List Int:=(zup k w).take y++(zUy k).drop y
theorem zDr{k:List Int}{w y:Nat}(h:y≤64):(zCq k w y).length=64:=by
 simp[zCq,zwc,zOi]; omega
theorem zVy{k:List Int}{w y:Nat}(h:y < 64):(by8 (zCq k w y))[y]?=some (.int .u8 ((zGl k).getD y 0)):=by
 unfold zCq by8
 rw[List.map_append,List.getElem?_append_right (by simp[zwc]; omega)]
 have:(zUy k)[y]?=some ((zGl k).getD y 0):=by
  rw[List.getElem?_eq_getElem (by rw[zOi]; exact h),← zPu,List.getD_eq_getElem?_getD,List.getElem?_eq_getElem (by rw[zOi]; exact h)]; rfl
 simp[zwc,this,show min y 64=y by omega]
theorem zVw{k:List Int}{w y:Nat}(h:y < 64):(by8 (zCq k w y)).set y (.int .u8 (zSy ((zGl k).getD y 0) w))=by8 (zCq k w (y+1)):=by
 apply List.ext_getElem?
 intro i
 have hl:=zwc (k:=k) (w:=w)
 have hz:=zOi (k:=k)
 have hp:(zup k w)[y]?=some (zSy ((zGl k).getD y 0) w):=by
  unfold zup; rw[List.getElem?_map,List.getElem?_range h]; rfl
 rw[List.getElem?_set]
 by_cases hi:y=i
 ·subst hi
  rw[if_pos rfl,if_pos (by simp[zDr (show y≤64 by omega)]; exact h)]
  unfold zCq by8
  rw[List.map_append,List.getElem?_append_left (by simp[hl]; omega)]
  simp[hp]
 ·rw[if_neg hi]
  unfold zCq by8
  rw[List.map_append,List.map_append]
  by_cases h2:i < y
  ·rw[List.getElem?_append_left (by simp[hl]; omega),List.getElem?_append_left (by simp[hl]; omega)]
   simp[List.getElem?_take,h2,show i < y+1 by omega]
  ·rw[List.getElem?_append_right (by simp[hl]; omega),List.getElem?_append_right (by simp[hl]; omega)]
   simp[hl,show min y 64=y by omega,show min (y+1) 64=y+1 by omega]
   congr 2; omega
theorem zoB:zc P 118=List.replicate 64 (zbb .u8 0):=by kernel_rfl
set_option maxHeartbeats 1000000 in
theorem zHl{m:Nat}(hm:m < 256)(hO:St H Γ)(hv:RdB Γ v key)(hb:∀ x ∈ key,0≤x∧x≤255)(hl:key.length≤80000000)
  (hk:∀ H' q,St H' (Γ++[(q,⟨by8 (zup key m),true⟩)])→K (sl q 0 64 3) H'):wCall P zAd [v,.int .u8 m] H K:=by
 apply zIn; unfold zKm
 refine zwa (fun l' H'=>∃ (v':Value) (B:List (Nat × Blk)),l'=[v',.int .u8 m,zva]∧St H' (Γ++B)∧RdB (Γ++B) v' (zGl key)) ?_ ?_
 ·refine zra hv.lenSl ?_
  refine zaa zPc ?_
  refine zja (fun h=>?_) (fun h=>?_)
  ·obtain⟨a,n,c,hs⟩:=hv.shape
   refine zxa hO (by rw[hs]; exact zvr _ _ _ _) ?_
   rw[← hs]
   clear hO
   intro q H hO
   refine zMu (j:=Γ.length+0) hO (zEa rfl) hv.app hb hl ?_
   clear hO
   intro H hO
   rw[zDs]
   refine nw hO ?_
   clear hO
   intro p5 H hO
   refine sw hO 1 rfl (by simp) (by simp[zQe]) (zQf _) ?_
   clear hO
   intro H hO
   refine zaa (sar hO 1 rfl (by simp[zQe]) (by omega)) ?_
   refine⟨_,_,rfl,hO,?_⟩
   rw[show zGl key=sha key from if_pos (by omega)]
   exact zVs 1 rfl (.inr rfl) zQe
  ·refine⟨v,[],rfl,hO.z,?_⟩
   rw[show zGl key=key from if_neg (by omega)]
   exact hv.app
 clear hO
 rintro l' H ⟨v',B,rfl,hO,hr⟩
 try simp only[zha,zia]
 rw[zoB]
 refine zyb hO ?_
 clear hO
 intro p6 H hO
 have hkl:=zCr key
 refine zaa (zdf hO ((Γ++B).length+0) (zEa rfl) (by omega) (by simp)) ?_
 refine zAq hO (zEa (k:=0) rfl) hr.app hkl (by simp) ?_
 clear hO
 intro H hO
 replace hO:=hO.set_r
 have e0:((List.replicate 64 (zbb .u8 0)).take 0++(by8 (zGl key)++(List.replicate 64 (zbb .u8 0)).drop (0+(zGl key).length)))=by8 (zCq key m 0):=by
  rw[Nat.zero_add,List.drop_replicate]
  simp only[zCq,zUy,List.take_zero,List.nil_append,List.drop_zero,by8,List.map_append,List.map_replicate]
  rfl
 rw[e0] at hO
 replace hO:St H (Γ++[(p6,⟨by8 (zCq key m 0),true⟩)]):=St.mid hO
 refine zuj (fun k l' H'=>∃ (y:Nat),y≤64∧k=64 - y∧l'=[.int .u8 m,zva,ptr p6 0,int y]∧St H' (Γ++[(p6,⟨by8 (zCq key m y),true⟩)])) _ _ ?_ 64 _ _ ⟨0,by omega,by omega,rfl,hO⟩
 clear hO
 rintro k l' H ⟨y,hy,rfl,rfl,hO⟩
 unfold zCi
 try simp only[zha,zia]
 refine zaa zSa ?_
 refine zja (fun h=>?_) (fun h=>?_)
 ·have hy:y < 64:=by omega
  have hg:=zPe (zBq hb) y
  repeat (first|refine oi ?_|refine ow ?_|refine wy ?_|refine wn ?_|refine wt ?_|refine wf' ?_|refine cy ?_|refine cn ?_)
  refine ld hO 0 rfl (by rw[show 0+(y:Int).toNat * 1=y by omega]; exact zVy hy) ?_
  have hx:Value.int .u8 ((zGl key).getD y 0)=zbb .u8 ((zGl key).getD y 0).toNat:=by
   refine zvg ?_
   rw[List.getD_eq_getElem?_getD]
   by_cases hi:y < (zGl key).length
   ·rw[List.getElem?_eq_getElem hi]; exact (zBq hb _ (List.getElem_mem hi)).1
   ·rw[List.getElem?_eq_none (by omega)]; decide
  rw[hx]
  refine zaa (zxe (k:=.u8) rfl hg hm) ?_
  repeat (first|refine oi ?_|refine ow ?_|refine wy ?_|refine wn ?_|refine wt ?_|refine wf' ?_|refine cy ?_|refine cn ?_)
  refine s1 hO 0 rfl rfl (by simp[zDr (show y≤64 by omega)]; omega) ?_
  clear hO
  intro H hO
  repeat (first|refine oi ?_|refine ow ?_|refine wy ?_|refine wn ?_|refine wt ?_|refine wf' ?_|refine cy ?_|refine cn ?_)
  refine⟨_,?_,y+1,by omega,rfl,rfl,?_⟩
  ·omega
  ·have e1:=zVw (k:=key) (w:=m) hy
   rw[show 0+(y:Int).toNat * 1=y by omega] at hO
   have hO:St H (Γ++[(p6,⟨(by8 (zCq key m y)).set y (.int .u8 (zSy ((zGl key).getD y 0) m)),true⟩)]):=hO
   rw[e1] at hO; exact hO
 ·have e:y=64:=by omega
  subst e
  have e2:zCq key m 64=zup key m:=by
   unfold zCq
   rw[List.take_of_length_le (by rw[zwc]; omega),List.drop_of_length_le (by rw[zOi]; omega),List.append_nil]
  rw[e2] at hO
  repeat (first|refine oi ?_|refine ow ?_|refine wy ?_|refine wn ?_|refine wt ?_|refine wf' ?_|refine cy ?_|refine cn ?_)
  refine zaa (sar hO 0 rfl (by simp[zwc]) (by omega)) ?_
  exact hk _ _ hO
end J
set_option maxRecDepth 100000
namespace J
open Go Go.Ab
variable{H:Heap}{Γ Γ0 Γ2 Δ G L:List (Nat × Blk)}{K:VH}{v w x:Value}{xs ys zs bs b key ms:List Int}{j p q o n k:Nat}{e:Int}{cs cs':List Value}
theorem zQu{q:Nat}{v2:Value}(hO:St H Γ)(hq:Γ[j]?=some (q,(⟨[v,v2],true⟩:Blk)))(hv:RdB Γ v xs)(hv2:RdB Γ v2 ys)(hx:∀ x ∈ xs,0≤x∧x≤255)(hyb:∀ x ∈ ys,0≤x∧x≤255)(hl:xs.length≤8000000)(hl2:ys.length≤8000000)
  (hk:∀ H',St H' Γ→K (agg (by8 (sha (xs++ys)))) H'):wCall P zHc [sl q 0 2 3] H K:=by
 apply zEi; unfold zvj
 rw[zDs]
 refine zyb hO ?_
 clear hO
 intro p2 H hO
 refine zPn hO ?_
 clear hO
 intro H pd hO
 have hd:Dg pd [] (DG pd (dSt []) zva ([]:List Int).length []):=⟨zva,[],rfl,.inl ⟨rfl,rfl,rfl⟩⟩
 refine zra zUg ?_
 generalize (DG pd (dSt []) zva ([]:List Int).length [])=L at *
 refine zsf (fun k l' H'=>∃ (y:Nat) (L:List (Nat × Blk)),y≤2∧k=2 - y∧l'=[ptr p2 0,ptr pd 0,sl q 0 2 3,int 2,int y]∧St H' ((Γ++[(p2,⟨List.replicate 32 (zbb .u8 0),true⟩)])++L)∧Dg pd ([xs,ys].take y).flatten L) _ _ ?_ 2 _ _ ⟨0,L,by omega,rfl,rfl,hO,hd⟩
 clear hO hd
 rintro k l' H ⟨y,L,hy,rfl,rfl,hO,hd⟩
 unfold zMf
 try simp only[zha,zia]
 refine zaa zSa ?_
 refine zja (fun h=>?_) (fun h=>?_)
 ·have hy0:y=0∨y=1:=by omega
  rcases hy0 with rfl|rfl
  ·refine zaa (zcc (by omega) (by omega)) ?_
   refine zpa hO j (zZa (zZa hq)) (v:=v) rfl ?_
   refine zEe hO hd hv.app (by intro x hx; cases hx) hx (by simp) (by omega) ?_
   clear hO hd
   intro H L hO hd
   repeat (first|refine oi ?_|refine ow ?_|refine wy ?_|refine wn ?_|refine wt ?_|refine wf' ?_|refine cy ?_|refine cn ?_)
   exact⟨1,by omega,1,L,by omega,rfl,rfl,hO,by simpa using hd⟩
  ·refine zaa (zcc (by omega) (by omega)) ?_
   refine zpa hO j (zZa (zZa hq)) (v:=v2) rfl ?_
   refine zEe hO hd hv2.app (by simpa using hx) hyb (by simp; omega) (by omega) ?_
   clear hO hd
   intro H L hO hd
   repeat (first|refine oi ?_|refine ow ?_|refine wy ?_|refine wn ?_|refine wt ?_|refine wf' ?_|refine cy ?_|refine cn ?_)
   exact⟨0,by omega,2,L,by omega,rfl,rfl,hO,by simpa using hd⟩
 ·have hy0:y=2:=by omega
  subst hy0
  replace hd:Dg pd (xs++ys) L:=by simpa using hd
  refine zhb rfl ?_
  try simp only[zha,zia]
  refine zFl hO hd (zGd hx hyb) (by simp; omega) ?_
  clear hO
  intro H hO
  refine zDf hO (Γ.length+0) (zZa (zEa rfl)) rfl (show 0+32≤32 by omega) (show (by8 (sha (xs++ys))).all oneCell=true by simp[oneCell]) ?_
  clear hO
  intro H hO
  rw[List.set_append_left _ _ (by simp),Go.Ab.set_r] at hO
  refine zCa hO (Γ.length+0) (zZa (zEa rfl)) (show _=by8 (sha (xs++ys)) from rfl) rfl (by omega) ?_
  exact hk H hO.left.left
set_option maxHeartbeats 1000000 in
theorem zIl{q c:Nat}(hO:St H Γ)(hv:RdB Γ v key)(hq:Γ[j]?=some (q,(⟨[x],true⟩:Blk)))(hx:RdB Γ x ms)(hb:∀ x ∈ key,0≤x∧x≤255)(hm:∀ x ∈ ms,0≤x∧x≤255)(hl:key.length≤80000000)(hl2:ms.length≤8000000)
  (hk:∀ H',St H' Γ→K (agg (by8 (zNu key ms))) H'):wCall P zwg [v,sl q 0 1 c] H K:=by
 apply zts; unfold zzu
 rw[zDs]
 refine zyb hO ?_
 clear hO
 intro p4 H hO
 refine zPn hO ?_
 clear hO
 intro H pd hO
 have hd:Dg pd [] (DG pd (dSt []) zva ([]:List Int).length []):=⟨zva,[],rfl,.inl ⟨rfl,rfl,rfl⟩⟩
 generalize (DG pd (dSt []) zva ([]:List Int).length [])=L at *
 refine zHl (m:=54) (by omega) hO hv.app.app hb hl ?_
 clear hO
 intro H q1 hO
 have hO2:=swp hO
 refine zEe hO2 hd (w:=sl q1 0 64 3) (ys:=zup key 54) (zVs 0 rfl (.inr rfl) zwc) (by intro x hx; cases hx) (zQn (by omega) hb) (by simp) (by rw[zwc]; omega) ?_
 clear hO hO2 hd
 intro H L hO hd
 replace hd:Dg pd (zup key 54) L:=hd
 replace hO:=drp hO
 refine zra zUg ?_
 refine zam (fun k l' H'=>∃ (y:Nat) (L:List (Nat × Blk)),y≤1∧k=1 - y∧l'=[v,ptr p4 0,ptr pd 0,sl q 0 1 c,int 1,int y]∧St H' ((Γ++[(p4,⟨List.replicate 32 (zbb .u8 0),true⟩)])++L)∧Dg pd (zup key 54++([ms].take y).flatten) L) _ _ ?_ 1 _ _ ⟨0,L,by omega,rfl,rfl,hO,by simpa using hd⟩
 clear hO hd
 rintro k l' H ⟨y,L,hy,rfl,rfl,hO,hd⟩
 unfold zFm
 try simp only[zha,zia]
 refine zaa zSa ?_
 refine zja (fun h=>?_) (fun h=>?_)
 ·have hy0:y=0:=by omega
  subst hy0
  refine zaa (zcc (by omega) (by omega)) ?_
  refine zpa hO j (zZa (zZa hq)) (v:=x) rfl ?_
  refine zEe hO hd hx.app (by simpa using zQn (by omega) hb) hm (by simp[zwc]) (by omega) ?_
  clear hO hd
  intro H L hO hd
  repeat (first|refine oi ?_|refine ow ?_|refine wy ?_|refine wn ?_|refine wt ?_|refine wf' ?_|refine cy ?_|refine cn ?_)
  exact⟨0,by omega,1,L,by omega,rfl,rfl,hO,by simpa using hd⟩
 ·have hy0:y=1:=by omega
  subst hy0
  replace hd:Dg pd (zup key 54++ms) L:=by simpa using hd
  refine zhb rfl ?_
  try simp only[zha,zia]
  refine zFl hO hd (zGd (zQn (by omega) hb) hm) (by simp[zwc]; omega) ?_
  clear hO
  intro H hO
  replace hO:=hO.left
  refine nw hO ?_
  clear hO
  intro p8 H hO
  refine sw hO 1 rfl (by simp) (by simp[zQe]) (zQf _) ?_
  clear hO
  intro H1 hO1
  refine zHl (m:=92) (by omega) hO1 hv.app hb hl ?_
  intro H q2 hO
  refine zaa (zdf hO (Γ.length+1) (zZa (zEa rfl)) (by omega) (by simp[zQe])) ?_
  refine⟨zWb hO1 (Γ.length+1) (zEa rfl) hO (Γ.length+1) (zZa (zEa rfl)) (zbh _),?_⟩
  refine zxa hO (zxx _ _ _ _ _ _ _) ?_
  clear hO
  intro q3 H hO
  replace hO:=hO.as.as
  refine zQu (j:=Γ.length+3) (xs:=zup key 92) (ys:=sha (zup key 54++ms)) hO (zEa rfl) (zVs 2 rfl (.inr rfl) zwc) (zVs 1 rfl (.inr rfl) zQe) (zQn (by omega) hb) zOu (by rw[zwc]; omega) (by rw[zQe]; omega) ?_
  clear hO
  intro H hO
  refine sw hO 0 rfl (by simp) (by simp[zQe]) (zQf _) ?_
  clear hO
  intro H hO
  refine lw hO 0 rfl (by simp[zQe]) (by omega) ?_
  exact hk H hO.left
theorem zWy{a b:Nat}:a ||| b=0↔a=0∧b=0:=by
 constructor
 ·intro h
  constructor
  ·apply Nat.eq_of_testBit_eq; intro i
   have:=congrArg (·.testBit i) h
   simp at this
   simp[this.1]
  ·apply Nat.eq_of_testBit_eq; intro i
   have:=congrArg (·.testBit i) h
   simp at this
   simp[this.2]
 ·rintro⟨rfl,rfl⟩; rfl
theorem zWw{a b:Nat}:a ^^^ b=0↔a=b:=by
 constructor
 ·intro h
  apply Nat.eq_of_testBit_eq; intro i
  have:=congrArg (·.testBit i) h
  simp at this
  exact this
 ·rintro rfl; exact Nat.xor_self _
theorem zep{a b:List Int}{y:Nat}(ha:y < a.length)(hb:y < b.length):a.take (y+1)=b.take (y+1)↔a.take y=b.take y∧a[y]=b[y]:=by
 rw[List.take_succ_eq_append_getElem ha,List.take_succ_eq_append_getElem hb]
 constructor
 ·intro h
  have:=List.append_inj h (by simp; omega)
  exact⟨this.1,by simpa using this.2⟩
 ·rintro⟨h1,h2⟩; rw[h1,h2]
theorem zRn{a b:List Int}(ha:a.length=32)(hb:b.length=32)(ba:∀ x ∈ a,0≤x∧x≤255)(bb:∀ x ∈ b,0≤x∧x≤255)(hO:St H Γ)
  (hk:∀ H',St H' Γ→K (.bool (decide (a=b))) H'):wCall P zFf [agg (by8 a),agg (by8 b)] H K:=by
 apply zTo; unfold zSo
 refine nw hO.z ?_
 clear hO
 intro p2 H hO
 refine nw hO ?_
 clear hO
 intro p3 H hO
 replace hO:St H (Γ++[(p2,⟨by8 a,true⟩),(p3,⟨by8 b,true⟩)]):=hO
 refine zbk (fun k l' H'=>∃ (y d:Nat),y≤32∧k=32 - y∧l'=[ptr p2 0,ptr p3 0,.bool false,zbb .u8 d,int y]∧H'=H∧d < 256∧(d=0↔a.take y=b.take y)) _ _ ?_ 32 _ _ ⟨0,0,by omega,by omega,rfl,rfl,by omega,by simp⟩
 rintro k l' H' ⟨y,d,hy,rfl,rfl,rfl,hd,hi⟩
 unfold zSj
 try simp only[zha,zia]
 refine zaa zSa ?_
 refine zja (fun h=>?_) (fun h=>?_)
 ·have hy:y < 32:=by omega
  have ga:=ba _ (List.getElem_mem (show y < a.length by omega))
  have gb:=bb _ (List.getElem_mem (show y < b.length by omega))
  repeat (first|refine oi ?_|refine ow ?_|refine wy ?_|refine wn ?_|refine wt ?_|refine wf' ?_|refine cy ?_|refine cn ?_)
  refine ld hO 0 rfl (v:=.int .u8 a[y]) (by rw[show 0+(y:Int).toNat * 1=y by omega]; simp[by8]) ?_
  repeat (first|refine oi ?_|refine ow ?_|refine wy ?_|refine wn ?_|refine wt ?_|refine wf' ?_|refine cy ?_|refine cn ?_)
  refine ld hO 1 rfl (v:=.int .u8 b[y]) (by rw[show 0+(y:Int).toNat * 1=y by omega]; simp[by8]) ?_
  rw[zvg ga.1,zvg gb.1]
  have x1:a[y].toNat ^^^ b[y].toNat < 256:=Nat.xor_lt_two_pow (n:=8) (by omega) (by omega)
  refine zaa (zxe (k:=.u8) rfl (show _ < 256 by omega) (show _ < 256 by omega)) ?_
  refine zaa (zmj (k:=.u8) rfl (show _ < 256 by omega) (show _ < 256 from x1)) ?_
  repeat (first|refine oi ?_|refine ow ?_|refine wy ?_|refine wn ?_|refine wt ?_|refine wf' ?_|refine cy ?_|refine cn ?_)
  refine⟨_,?_,y+1,_,by omega,rfl,rfl,rfl,Nat.or_lt_two_pow (n:=8) hd x1,?_⟩
  ·omega
  ·rw[zWy,zWw,zep (by omega) (by omega),hi]
   constructor
   ·rintro⟨h1,h2⟩; exact⟨h1,by omega⟩
   ·rintro⟨h1,h2⟩; exact⟨h1,by rw[h2]⟩
 ·have e:y=32:=by omega
  subst e
  rw[List.take_of_length_le (by omega),List.take_of_length_le (by omega)] at hi
  refine zhb rfl ?_
  try simp only[zha,zia]
  refine zaa (ztw (k:=.u8) (b:=0)) ?_
  have:=hk _ hO.left
  rw[decide_eq_decide.2 hi]; exact this
end J
set_option maxRecDepth 100000
namespace J
open Go Go.Ab
variable{H:Heap}{Γ Γ0 Γ2 Δ G L:List (Nat × Blk)}{K:VH}{v w x:Value}{xs ys zs bs b key ms:List Int}{j p q o n k:Nat}{e:Int}{cs cs':List Value}
end J
