/- texts of the proof, one behind the other -/
import Derived.Test.YtheklmekepeblaaGreatDoorUB
set_option linter.unusedSimpArgs false
set_option linter.unusedSectionVars false
set_option linter.unusedVariables false
set_option maxRecDepth 100000
namespace J
open Go Go.Ab
variable{H:Heap}{Γ:List (Nat × Blk)}{K:VH}{v w x:Value}{xs ys:List Int}{j p:Nat}{e:Int}
abbrev agg(l:List Value):Value:=.agg l.toArray
theorem zFa[lp:LpC]{p n:Nat}{cs:List Value}{w:Bool}{K:VH}(h:St H Γ)(i:Nat)(hi:Γ[i]?=some (p,⟨cs,w⟩))(hn:cs.length=n)(hp:0 < n)(hk:K (agg cs) H):opW (zka n (ptr p 0) H) K:=by
 refine zua h i hi (show _=cs from ?_) hn hp hk
 rw[List.drop_zero]
 exact List.take_of_length_le (Nat.le_of_eq hn)
theorem zya[lp:LpC]{p n:Nat}{cs new:List Value}{K:VH}(h:St H Γ)(i:Nat)(hi:Γ[i]?=some (p,⟨cs,true⟩))(hn:cs.length=n)(hl:new.length=n)(h1:new.all oneCell=true)
  (hk:∀ H',St H' (Γ.set i (p,⟨new,true⟩))→K undef H'):opW (zha n (ptr p 0) (agg new) H) K:=by
 refine zed h i hi hl (by omega) h1 fun H' hO=>hk H' ?_
 have e:cs.take 0++(zza (agg new)++cs.drop (0+n))=new:=by
  rw[List.drop_of_length_le (by omega)]
  show []++(new++[])=new
  simp
 rw[e] at hO; exact hO
theorem zrm{a b:Value}:zee 0 (.tuple [a,b].toArray)=some a:=rfl
theorem zsm{a b:Value}:zee 1 (.tuple [a,b].toArray)=some b:=rfl
theorem St.mid[lp:LpC]{L R:List (Nat × Blk)}(h:St H ((Γ++L)++R)):St H (Γ++R):=h.sub (List.Sublist.append (List.sublist_append_left Γ L) (List.Sublist.refl R))
abbrev MadeB(Γ:List (Nat × Blk))(K:VH)(xs:List Int):Prop:=∀ (H':Heap) (v':Value) (cs':List Value),St H' (Γ++zKa v' cs')→OwnB v' xs cs'→K v' H'
theorem MadeB.none(h:MadeB Γ K [])(hO:St H Γ):K zqa H:=h H zqa [] (by show St H (Γ++[]); rw[List.append_nil]; exact hO) OwnB.nil
theorem u46:P.underlying 22=some (.slice 5):=by kernel_rfl
theorem zYl(H:Heap):(zla P 22 0).f [] H=some (sl H.next 0 0 3,H.push []):=by kernel_rfl
theorem zJx(k:IntKind)(n:Int)(H:Heap):(zla P 22 1).f [(0,.int k n)] H=some (sl H.next 0 1 3,H.push [.int k n]):=by kernel_rfl
theorem zrI(k k':IntKind)(m n:Int)(H:Heap):(zla P 22 2).f [(0,.int k m),(1,.int k' n)] H=some (sl H.next 0 2 3,H.push [.int k m,.int k' n]):=by kernel_rfl
theorem zeF(a:Option Addr)(n c:Nat)(H:Heap):(zla P 171 1).f [(0,.slice a n c)] H=some (sl H.next 0 1 3,H.push [.slice a n c]):=by kernel_rfl
theorem zsI(a a':Option Addr)(n n' c c':Nat)(H:Heap):(zla P 171 2).f [(0,.slice a n c),(1,.slice a' n' c')] H=some (sl H.next 0 2 3,H.push [.slice a n c,.slice a' n' c']):=by kernel_rfl
theorem zFr(hO:St H Γ)(hv:RdB Γ v xs)(hl:xs.length≤100000000)(hk:MadeB Γ K xs):wCall P zWb [v] H K:=by
 apply zbh; unfold zEe
 have hv':=hv
 rcases hv with⟨rfl,rfl⟩|⟨p,o,c,rfl,_⟩
 ·refine zaa (zkB u46) ?_
  refine zvd rfl ?_
  exact hk.none hO
 ·refine zaa (zkB u46) ?_
  refine zDb rfl ?_
  refine zDa hO (zYl _) ?_
  intro q H hO
  exact zEc (v:=sl q 0 0 3) (cs:=[]) (xs:=[]) hO (.inr ⟨q,.inr ⟨rfl,rfl⟩,rfl,Nat.le_refl _,rfl⟩) hv' (by simp; omega) hk
theorem zrw{n:Nat}(hn:n≤8)(hk:K (int n) H):wCall P zai [int n] H K:=by
 apply zJq; unfold zHp
 repeat (first|refine oi ?_|refine ow ?_|refine wy ?_|refine wn ?_|refine wt ?_|refine wf' ?_|refine cy ?_|refine cn ?_)
 rw[show max (0:Int) (min (n:Int) 8)=n by omega]
 exact hk
theorem zzB{xss:List (List Int)}{y:Nat}(h:y < xss.length):(xss.take (y+1)).flatten=(xss.take y).flatten++xss[y]:=by
 rw[List.take_succ_eq_append_getElem h,List.flatten_append]; simp
def leN(y n:Nat):List Int:=(List.range y).map fun i=>((n / 256 ^ i % 256:Nat):Int)
theorem zqd(y n:Nat):(leN y n).length=y:=by simp[leN]
theorem zfE(y n:Nat):leN (y+1) n=leN y n++[((n / 256 ^ y % 256:Nat):Int)]:=by simp[leN,List.range_succ]
def tkB(xs:List Int)(e:Int)(n:Nat):List Int:=if e=0∧n≤xs.length then xs.take n else []
def tkR(xs:List Int)(e:Int)(n:Nat):List Int:=if e=0∧n≤xs.length then xs.drop n else []
def tkE(xs:List Int)(e:Int)(n:Nat):Int:=if e=0∧n≤xs.length then 0 else if e=0 then 51 else e
abbrev rdr(v:Value)(e:Int):Blk:=⟨[v,int e],true⟩
theorem zHu{x' y:Nat × Blk}(h:Γ[j]?=some x'):(Γ.set j y)[j]?=some y:=List.getElem?_set_self (List.getElem?_eq_some_iff.1 h).1
theorem zGr{b':Blk}{s:Value}{p':Nat}(h:RdB Γ v xs)(hj:Γ[j]?=some (p,rdr s e))(hs:∃ a n c,s=.slice a n c):RdB (Γ.set j (p',b')) v xs:=by
 rcases h with h|⟨p2,o,c,h1,h2,h3|⟨j',b,h3,h4⟩⟩
 ·exact .inl h
 ·exact .inr ⟨p2,o,c,h1,h2,.inl h3⟩
 ·by_cases hjj:j'=j
  ·subst hjj
   rw[hj] at h3
   cases h3
   obtain⟨a,n,c',rfl⟩:=hs
   refine .inr ⟨_,o,c,h1,h2,.inl ?_⟩
   match xs,o,h4 with
   | [],_,_=>rfl
   | y::r,0,h4=>simp at h4
   | y::r,1,h4=>simp at h4
   | y::r,o+2,h4=>simp at h4
  ·exact .inr ⟨p2,o,c,h1,h2,.inr ⟨j',b,by rw[List.getElem?_set_ne (fun h=>hjj h.symm)]; exact h3,h4⟩⟩
theorem zlL(a:Option Addr)(n c:Nat):(zAa P 190).f [(0,.slice a n c)]=some (agg [.slice a n c,int 0]):=by kernel_rfl
theorem zKx(hO:St H Γ)(hv:RdB Γ v xs)(hk:∀ H' p,St H' (Γ++[(p,rdr v 0)])→K (ptr p 0) H'):wCall P zMj [v] H K:=by
 apply zqw; unfold zIx
 obtain⟨a,n,c,rfl⟩:=RdB.shape hv
 refine zaa (zlL _ _ _) ?_
 refine zeb hO ?_
 intro p H hO
 exact hk _ _ hO
theorem zIu{x:Int}(hO:St H Γ)(hj:Γ[j]?=some (p,rdr v e))(hk:∀ H',St H' (Γ.set j (p,rdr zqa (if e=0 then x else e)))→K (.tuple [].toArray) H'):wCall P zgd [ptr p 0,int x] H K:=by
 apply zXk; unfold zvi
 refine zaa zca ?_
 refine zaa zba ?_
 refine zoa hO j hj rfl ?_
 refine zaa zUa ?_
 refine zma (fun h=>?_) (fun h=>?_)
 ·rw[if_pos h] at hk
  refine zaa zca ?_
  refine zaa zba ?_
  refine zNa hO j hj rfl (show 1 < 2 by omega) (show _=[v,int x] from rfl) ?_
  intro H hO
  refine zaa zca ?_
  refine zaa zba ?_
  refine zNa hO j (zHu hj) rfl (show 0 < 2 by omega) (show _=[zqa,int x] from rfl) ?_
  intro H hO
  rw[List.set_set] at hO
  exact hk _ hO
 ·rw[if_neg h] at hk
  refine zaa zca ?_
  refine zaa zba ?_
  refine zNa hO j hj rfl (show 0 < 2 by omega) (show _=[zqa,int e] from rfl) ?_
  intro H hO
  exact hk _ hO
abbrev Inh(v:Value)(xs:List Int)(v':Value)(ys:List Int):Prop:=∀ Γ':List (Nat × Blk),RdB Γ' v xs→RdB Γ' v' ys
theorem Inh.none{v:Value}{xs:List Int}:Inh v xs zqa []:=fun _ _=>.nil
theorem zhi(h:RdB Γ v xs){n:Nat}(hn:n≤xs.length):∃ v',zTa 1 v none (some (int n)) none=some v'∧Inh v xs v' (xs.take n):=by
 rcases h with⟨rfl,rfl⟩|⟨p,o,c,rfl,hc,_⟩
 ·have:n=0:=by simpa using hn
  subst this
  exact⟨zqa,rfl,.none⟩
 ·obtain⟨c',hc',he⟩:=zTD (o:=o) (p:=p) (n:=xs.length) (h:=(n:Int)) (by omega) (by omega) hc
  rw[Int.toNat_natCast] at he
  refine⟨_,he,fun Γ' h=>?_⟩
  rcases h with⟨h,_⟩|⟨p',o',c'',heq,_,h⟩
  ·cases h
  cases heq
  refine .inr ⟨p,o,c',by rw[List.length_take,Nat.min_eq_left hn],hc',?_⟩
  rcases h with rfl|⟨j,b,h1,h2⟩
  ·exact .inl (by simp)
  ·refine .inr ⟨j,b,h1,?_⟩
   rw[List.length_take,Nat.min_eq_left hn]
   have:=congrArg (List.take n) h2
   rw[List.take_take,Nat.min_eq_left hn] at this
   rw[this,by8,by8,List.map_take]
theorem zXs(h:RdB Γ v xs){n:Nat}(hn:n≤xs.length):∃ v',zTa 1 v (some (int n)) none none=some v'∧Inh v xs v' (xs.drop n):=by
 rcases h with⟨rfl,rfl⟩|⟨p,o,c,rfl,hc,_⟩
 ·have:n=0:=by simpa using hn
  subst this
  exact⟨zqa,rfl,.none⟩
 ·have hb:zjd xs.length (some (int (n:Int)))=some n:=by
   show (match leB 0 (n:Int) with|true=>(match Nat.ble (n:Int).toNat xs.length with|true=>some (n:Int).toNat|false=>none)|false=>none)=_
   rw[zRc,decide_eq_true (by omega)]
   simp only[Int.toNat_natCast]
   rw[Nat.ble_eq_true_of_le (by omega)]
  have he:∃ c',(c'=2∨c'=3)∧zTa 1 (sl p o xs.length c) (some (int n)) none none=some (sl p (o+n) (xs.length - n) c'):=by
   rcases hc with rfl|rfl
   ·refine⟨2,.inl rfl,?_⟩
    unfold zTa
    simp only[zCc,hb]
    simp[zdl,zLe]
   ·refine⟨3,.inr rfl,?_⟩
    unfold zTa
    simp only[zCc,hb]
    simp[zdl,zLe]
  obtain⟨c',hc',he⟩:=he
  refine⟨_,he,fun Γ' h=>?_⟩
  rcases h with⟨h,_⟩|⟨p',o',c'',heq,_,h⟩
  ·cases h
  cases heq
  refine .inr ⟨p,o+n,c',by rw[List.length_drop],hc',?_⟩
  rcases h with rfl|⟨j,b,h1,h2⟩
  ·exact .inl (by simp)
  ·refine .inr ⟨j,b,h1,?_⟩
   have:=congrArg (List.drop n) h2
   rw[List.drop_take,List.drop_drop] at this
   rw[List.length_drop,this,by8,by8,List.map_drop]
theorem zZl{n:Nat}(hO:St H Γ)(hj:Γ[j]?=some (p,rdr v e))(hv:RdB Γ v xs)(hn:n≤1000000)
  (hk:∀ H' v1 v2,St H' (Γ.set j (p,rdr v2 (tkE xs e n)))→Inh v xs v1 (tkB xs e n)→Inh v xs v2 (tkR xs e n)→K v1 H'):wCall P zXb [ptr p 0,int n] H K:=by
 apply zWk; unfold zui
 repeat (first|refine oi ?_|refine ow ?_|refine wy ?_|refine wn ?_|refine wt ?_|refine wf' ?_|refine cy ?_|refine cn ?_)
 rw[show max (n:Int) 0=n by omega]
 refine zxa (fun l' H'=>l'=[ptr p 0,int n,.bool (decide (¬ (e=0∧n≤xs.length)))]∧St H' Γ) ?_ ?_
 ·refine zaa zca ?_
  refine zaa zba ?_
  refine zoa hO j hj rfl ?_
  refine zaa zQa ?_
  refine zma (fun h=>?_) (fun h=>?_)
  ·repeat (first|refine oi ?_|refine ow ?_|refine wy ?_|refine wn ?_|refine wt ?_|refine wf' ?_|refine cy ?_|refine cn ?_)
   exact⟨by rw[decide_eq_true (show ¬ (e=0∧n≤xs.length) from fun h'=>h h'.1)],hO⟩
  ·refine zaa zca ?_
   refine zaa zba ?_
   refine zoa hO j hj rfl ?_
   refine zva hv.lenSl ?_
   repeat (first|refine oi ?_|refine ow ?_|refine wy ?_|refine wn ?_|refine wt ?_|refine wf' ?_|refine cy ?_|refine cn ?_)
   refine⟨?_,hO⟩
   rw[decide_eq_decide.2 (show (xs.length:Int) < n↔¬ (e=0∧n≤xs.length) by omega)]
 clear hO
 rintro l' H ⟨rfl,hO⟩
 try simp only[zia,zja]
 refine zma (fun h=>?_) (fun h=>?_)
 ·unfold tkB tkR tkE at hk
  rw[if_neg h,if_neg h,if_neg h] at hk
  refine zIu hO hj ?_
  intro H hO
  exact hk _ zqa zqa hO .none .none
 ·have h:=Decidable.not_not.1 h
  unfold tkB tkR tkE at hk
  rw[if_pos h,if_pos h,if_pos h] at hk
  obtain⟨v1,e1,r1⟩:=zhi hv h.2
  obtain⟨v2,e2,r2⟩:=zXs hv h.2
  refine zaa zca ?_
  refine zaa zba ?_
  refine zoa hO j hj rfl ?_
  refine zaa e1 ?_
  refine zaa zca ?_
  refine zaa zba ?_
  refine zoa hO j hj rfl ?_
  refine zaa e2 ?_
  refine zaa zca ?_
  refine zaa zba ?_
  obtain⟨a2,n2,c2,rfl⟩:=RdB.shape (r2 _ hv)
  refine zNa hO j hj rfl (show 0 < 2 by omega) (show _=[.slice a2 n2 c2,int e] from rfl) ?_
  intro H hO
  rw[h.1] at hO
  exact hk _ v1 _ hO r1 r2
theorem zwG{t:Task}{K K':VH}(h:wT P t K)(hk:∀ v H,K v H→K' v H):wT P t K':=by
 obtain⟨n,ex,v,H',h1,h2⟩:=h
 exact⟨n,ex,v,H',h1,hk _ _ h2⟩
theorem zLq[L:LpC]{l q jq:Nat}{G:Nat→List (Nat × Blk)}(hq:∀ k,(G k)[jq]?=some (q,⟨[v],true⟩))(hv:∀ k,RdB (G k) v xs)(hx:xs.length≤1000000)
  (hr:∀ k (h:k < xs.length) H,St H (G (k+1))→wT P (.round l [int k,.int .u8 xs[k]] H) fun b H'=>b=.bool true∧St H' (G k)) (hO:St H (G xs.length)) (hk:∀ H',St H' (G 0)→K (.tuple [].toArray) H'):wCall P zfb [zkn l,ptr q 0] H K:=by
 apply zlf; unfold zpd
 refine zoa hO jq (hq _) rfl ?_
 refine zva (hv xs.length).lenSl ?_
 repeat (first|refine oi ?_|refine ow ?_|refine wy ?_|refine wn ?_|refine wt ?_|refine wf' ?_|refine cy ?_|refine cn ?_)
 refine zce (fun k l' H'=>∃ y:Nat,y≤xs.length∧k=y∧l'=[zkn l,ptr q 0,int ((y:Int) - 1)]∧St H' (G y)) _ _ ?_ xs.length _ _ ⟨xs.length,by omega,rfl,rfl,hO⟩
 clear hO
 rintro k l' H' ⟨y,hy,rfl,rfl,hO⟩
 unfold zJc
 try simp only[zia,zja]
 repeat (first|refine oi ?_|refine ow ?_|refine wy ?_|refine wn ?_|refine wt ?_|refine wf' ?_|refine cy ?_|refine cn ?_)
 refine zma (fun h=>?_) (fun h=>?_)
 ·obtain⟨z,rfl⟩:∃ z:Nat,k=z+1:=⟨k - 1,by omega⟩
  have hz:z < xs.length:=by omega
  have ez:((z+1:Nat):Int) - 1=z:=by omega
  rw[ez] at *
  refine zoa hO jq (hq _) rfl ?_
  obtain⟨p2,o,c,j2,b,rfl,h1,h2⟩:=(hv (z+1)).at hz
  repeat (first|refine oi ?_|refine ow ?_|refine wy ?_|refine wn ?_|refine wt ?_|refine wf' ?_|refine cy ?_|refine cn ?_)
  refine zoa hO j2 h1 (v:=.int .u8 xs[z]) (by simpa using h2) ?_
  refine zWD (zwG (hr z hz _ hO) ?_)
  rintro b2 H2 ⟨rfl,hO2⟩
  repeat (first|refine oi ?_|refine ow ?_|refine wy ?_|refine wn ?_|refine wt ?_|refine wf' ?_|refine cy ?_|refine cn ?_)
  exact⟨_,by omega,z,by omega,rfl,rfl,hO2⟩
 ·have:k=0:=by omega
  subst this
  repeat (first|refine oi ?_|refine ow ?_|refine wy ?_|refine wn ?_|refine wt ?_|refine wf' ?_|refine cy ?_|refine cn ?_)
  exact hk _ hO
def leV:List Int→Nat
 | []=>0
 | x::r=>x.toNat+256 * leV r
theorem zJu:∀ (xs:List Int),(∀ x ∈ xs,0≤x∧x≤255)→leV xs < 256 ^ xs.length
 | [],_=>by simp[leV]
 | x::r,h=>by
  have h1:=zJu r fun y hy=>h y (List.mem_cons_of_mem _ hy)
  have h2:=h x List.mem_cons_self
  simp only[leV,List.length_cons,Nat.pow_succ]
  omega
theorem zgE{k:Nat}(h:k < xs.length):leV (xs.drop k)=xs[k].toNat+256 * leV (xs.drop (k+1)):=by
 rw[List.drop_eq_getElem_cons h]; rfl
theorem ztI{a b:Nat}(hb:b < 256):(a * 2 ^ 8) ||| b=b+256 * a:=by
 rw[Nat.mul_comm,← Nat.two_pow_add_eq_or_of_lt (i:=8) hb]; omega
theorem RdB.bytes(hb:∀ x ∈ xs,0≤x∧x≤255)(n:Nat)(e:Int):∀ x ∈ tkB xs e n,0≤x∧x≤255:=by
 unfold tkB
 split
 ·exact fun x hx=>hb x (List.mem_of_mem_take hx)
 ·simp
theorem zYm(xs:List Int)(e:Int)(n:Nat):(tkB xs e n).length≤n:=by
 unfold tkB
 split
 ·rw[List.length_take]; omega
 ·simp
theorem zQy[L:LpC]{q5 m:Nat}{b:Int}{y:Nat × Blk}{X:Heap→Prop}(hO:St H (Γ++[(q5,⟨[zsb .u64 m],true⟩),y]))(hm:m < 256 ^ 7)(hb:0≤b∧b≤255)(hk:∀ H',St H' (Γ++[(q5,⟨[zsb .u64 (b.toNat+256 * m)],true⟩),y])→X H') :
  opW (zda (ptr q5 0) H) fun t15 H2=>opP ((zpa P .shl 23 true).f t15 (.int .u64 8)) fun t16=>opW (zSb .u64 (.int .u8 b) H2) fun t18 H5=>opP ((zpa P .or 23 false).f t16 t18) fun t19=>opW (zha 1 (ptr q5 0) t19 H5) fun u H8=>X H8:=by
 refine zoa hO (Γ.length+0) (zwa rfl) rfl ?_
 refine zaa (zLj (n:=8) rfl (by decide)) ?_
 rw[zOk hb.1]
 refine zva (cvU rfl) ?_
 have h2:m * 2 ^ 8 % szU .u64=m * 2 ^ 8:=Nat.mod_eq_of_lt (show m * 2 ^ 8 < 2 ^ 64 by omega)
 have h3:b.toNat % szU .u64=b.toNat:=Nat.mod_eq_of_lt (show b.toNat < 2 ^ 64 by omega)
 rw[h2,h3]
 refine zaa (zNk rfl (show m * 2 ^ 8 < 2 ^ 64 by omega) (show b.toNat < 2 ^ 64 by omega)) ?_
 rw[ztI (by omega)]
 refine zNa hO (Γ.length+0) (zwa rfl) rfl (show 0 < 1 by omega) (show _=[zsb .u64 (b.toNat+256 * m)] from rfl) ?_
 intro H hO
 exact hk _ hO.set_r
set_option maxHeartbeats 1000000 in
theorem zfg{k:Nat}(hk8:k≤8)(hO:St H Γ)(hj:Γ[j]?=some (p,rdr v e))(hv:RdB Γ v xs)(hb:∀ x ∈ xs,0≤x∧x≤255)
  (hk:∀ H' v2,St H' (Γ.set j (p,rdr v2 (tkE xs e k)))→Inh v xs v2 (tkR xs e k)→K (zsb .u64 (leV (tkB xs e k))) H'):wCall P znb [ptr p 0,int k] H K:=by
 apply zck; unfold zCh
 refine zeb hO ?_
 intro q5 H hO
 have hjl:=(List.getElem?_eq_some_iff.1 hj).1
 refine zNa hO (Γ.length+0) (zwa rfl) rfl (show 0 < 1 by omega) (show _=[zsb .u64 0] from rfl) ?_
 intro H hO
 replace hO:St H (Γ++[(q5,⟨[zsb .u64 0],true⟩)]):=hO.set_r
 refine zrw hk8 ?_
 refine zZl hO (zCa hj) hv.app (by omega) ?_
 intro H v1 v2 hO r1 r2
 rw[List.set_append_left _ _ hjl] at hO
 have hbb:=RdB.bytes hb k e
 have hbl:=zYm xs e k
 have hk:=hk (v2:=v2)
 have r1:=r1 _ (zGr (b':=rdr v2 (tkE xs e k)) (p':=p) hv hj (RdB.shape hv))
 generalize Γ.set j (p,rdr v2 (tkE xs e k))=Γ2 at *
 generalize tkB xs e k=bs at *
 apply zJf
 unfold zJd
 refine zeb hO ?_
 intro q H9 hO
 obtain⟨a1,n1,c1,e1⟩:=RdB.shape r1
 have hc1:zza v1=[v1]:=by rw[e1]; rfl
 rw[hc1,List.append_assoc] at hO
 have G0:∀ m:Nat,RdB (Γ2++[(q5,⟨[zsb .u64 m],true⟩),(q,⟨[v1],true⟩)]) v1 bs:=fun m=>r1.app
 refine zVD (L:=lp0) hO (f:=zfb) (args:=[zkn (Nat.succ H9.next),ptr q 0]) rfl ?_
 intro T hT hag H0 hO0
 generalize hL:lpc (Nat.succ H9.next) _ lp0=L at hO0
 refine zLq (L:=L) (l:=Nat.succ H9.next) (jq:=Γ2.length+1) (G:=fun m=>Γ2++[(q5,⟨[zsb .u64 (leV (bs.drop m))],true⟩),(q,⟨[v1],true⟩)]) (fun m=>zwa rfl) (fun m=>G0 _) (by omega) ?_ (by rw[List.drop_of_length_le (Nat.le_refl _)]; exact hO0) ?_
 ·intro m hm H hOm
  subst hL
  refine zUD (n:=21) hOm hT hag rfl (by decide) ?_
  rw[zdi]
  unfold zyf
  refine zoB hOm ?_
  intro H2 hO2
  have hx:=hbb _ (List.getElem_mem hm)
  have hlt:=zJu (bs.drop (m+1)) fun y hy=>hbb y (List.mem_of_mem_drop hy)
  have hpw:256 ^ (bs.drop (m+1)).length≤256 ^ 7:=Nat.pow_le_pow_right (by omega) (by rw[List.length_drop]; omega)
  refine zQy (L:=lpc (Nat.succ H9.next) _ lp0) hO2 (Nat.lt_of_lt_of_le hlt hpw) hx ?_
  intro H3 hO3
  refine zsG hO3 ?_
  intro H4 hO4
  refine⟨rfl,?_⟩
  rw[zgE hm]
  exact hO4
 ·intro H2 hO2
  subst hL
  refine⟨.ready,_,by simp,hO2,?_⟩
  intro H3 hO3
  show opW _ _
  refine zoa hO3 (Γ2.length+0) (zwa rfl) rfl ?_
  exact hk _ hO3.left r2
abbrev rdN(Γ:List (Nat × Blk))(j p:Nat)(xs:List Int)(e:Int)(n:Nat)(v2:Value):List (Nat × Blk):=Γ.set j (p,rdr v2 (tkE xs e n))
theorem zAB{n:Nat}(hO:St H Γ)(hj:Γ[j]?=some (p,rdr v e))(hv:RdB Γ v xs)(hn:n≤1000000)(hx:xs.length≤1000000)
  (hk:∀ H' v2 v' cs',St H' (rdN Γ j p xs e n v2++zKa v' cs')→Inh v xs v2 (tkR xs e n)→OwnB v' (tkB xs e n) cs'→K v' H'):wCall P zWe [ptr p 0,int n] H K:=by
 apply zVl; unfold ztj
 refine zZl hO hj hv hn ?_
 intro H v1 v2 hO r1 r2
 have hl:=zYm xs e n
 refine zFr hO (r1 _ (zGr (b':=rdr v2 (tkE xs e n)) (p':=p) hv hj (RdB.shape hv))) (by omega) ?_
 intro H' v' cs' hO' hv'
 exact hk H' v2 v' cs' hO' r2 hv'
end J
set_option linter.unusedSimpArgs false
set_option maxRecDepth 100000
namespace J
open Go Go.Ab
variable{H:Heap}{Γ:List (Nat × Blk)}{K:VH}{v w x:Value}{xs ys:List Int}{j p:Nat}{e:Int}
section
variable{α:Type}{f:α→List Value}{l:List α}{n i o m:Nat}
theorem zhE(hw:∀ x ∈ l,(f x).length=n):(l.flatMap f).length=l.length * n:=by
 induction l with
 | nil=>simp
 | cons a l ih=>
  rw[List.flatMap_cons,List.length_append,ih (fun x h=>hw x (List.mem_cons_of_mem _ h)),hw a List.mem_cons_self,List.length_cons,Nat.add_mul]; omega
theorem ziE(hw:∀ x ∈ l,(f x).length=n)(h:i < l.length):∃ A B,l.flatMap f=A++(f l[i]++B)∧A.length=i * n∧∀ y,(l.set i y).flatMap f=A++(f y++B):=by
 refine⟨(l.take i).flatMap f,(l.drop (i+1)).flatMap f,?_,?_,fun y=>?_⟩
 ·conv=>lhs; rw[← List.take_append_drop i l,List.drop_eq_getElem_cons h]
  rw[List.flatMap_append,List.flatMap_cons]
 ·rw[zhE (fun x h=>hw x (List.mem_of_mem_take h)),List.length_take,Nat.min_eq_left (by omega)]
 ·rw[List.set_eq_take_append_cons_drop,if_pos h,List.flatMap_append,List.flatMap_cons]
theorem zsw(hw:∀ x ∈ l,(f x).length=n)(h:i < l.length)(hm:o+m≤n):((l.flatMap f).drop (i * n+o)).take m=((f l[i]).drop o).take m:=by
 obtain⟨A,B,e,ha,_⟩:=ziE hw h
 have hl:=hw _ (List.getElem_mem h)
 rw[e,← List.drop_drop,← ha,List.drop_left,List.drop_append_of_le_length (by omega),List.take_append_of_le_length (by rw[List.length_drop]; omega)]
end
theorem _root_.Go.Ab.St.rot[lp:LpC]{A B:List (Nat × Blk)}(h:St H ((Γ++A)++B)):St H ((Γ++B)++A):=h.perm (by
 rw[List.append_assoc,List.append_assoc]
 exact List.Perm.append_left Γ List.perm_append_comm)
theorem zKu[lp:LpC]{size bytes n q c:Nat}{cs new:List Value}{b:Bool}(hO:St H ((Γ++zKa v cs)++[(q,⟨new,b⟩)]))(hv:Own size v n cs)(hs:new.length=size)(hp:0 < size)(h1:new.all oneCell=true)
  (hr:(n+1) * bytes≤140737488355328) (hr2:n+1≤9223372036854775807)
  (hk:∀ p' H',St H' (Γ++[(p',⟨cs++new,true⟩)])→Own size (sl p' 0 (n+1) (2 * size)) (n+1) (cs++new)→K (sl p' 0 (n+1) (2 * size)) H'):opW (zsa size bytes v (sl q 0 1 c) H) K:=by
 have hO2:=hO.rot
 refine zIj hO2 hv hp (m:=1) rfl (new:=new) ?_ (by omega) hr hr2 h1 (by omega) ?_
 ·have hg:=hO.at ((Γ++zKa v cs).length+0) (zwa rfl) (b:=⟨new,b⟩) (.inr (by intro h; simp only at h; rw[h] at hs; simp at hs; omega))
  rw[zHj hg (by simp[hs])]
  rw[List.drop_zero,Nat.one_mul,List.take_of_length_le (Nat.le_of_eq hs)]
 ·intro p' H' hO' hv'
  refine hk _ _ ?_ hv'
  show St H' (Γ++[(p',⟨cs++new,true⟩)])
  exact St.sub hO' (List.Sublist.append (List.sublist_append_left _ _) (List.Sublist.refl _))
theorem zYe[lp:LpC]{size bytes n q c:Nat}{cs new:List Value}{b:Bool}(hO:St H ((Γ++zKa v cs)++[(q,⟨new,b⟩)]))(hv:Own size v n cs)(hs:new.length=size)(hp:0 < size)(h1:new.all oneCell=true)
  (hr:(n+1) * bytes≤140737488355328) (hr2:n+1≤9223372036854775807)
  (hk:∀ v' H',St H' (Γ++zKa v' (cs++new))→Own size v' (n+1) (cs++new)→K v' H'):opW (zsa size bytes v (sl q 0 1 c) H) K:=
 zKu hO hv hs hp h1 hr hr2 fun p' H' h1 h2=>hk _ _ h1 h2
def blank:List Int:=List.replicate 64 255
def zeros:List Int:=List.replicate 64 0
theorem zii(s:List Int):(by8 s).length=s.length:=by simp[by8]
theorem zad(s:List Int):(by8 s).all oneCell=true:=by simp[by8,oneCell]
theorem zae(xs:List Int):(by8 xs).all zab=true:=by simp[zab,zie]
theorem zBB:∀ (s:List Int),Fit (List.replicate s.length (.i .u8)) (by8 s)
 | []=>trivial
 | _::s=>⟨rfl,zBB s⟩
theorem zYk:∀ (a b:List Int),zDc (by8 a) (by8 b)=decide (a=b)
 | [],[]=>rfl
 | [],_::_=>rfl
 | _::_,[]=>rfl
 | x::a,y::b=>by
  show (decide (x=y) && zDc (by8 a) (by8 b))=_
  rw[zYk a b]
  by_cases h:x=y
  ·subst h; simp
  ·simp[h]
end J
set_option maxRecDepth 100000
namespace J
open Go Go.Ab
variable{H:Heap}{Γ:List (Nat × Blk)}{K:VH}{v w x:Value}{xs ys:List Int}{j p:Nat}{e:Int}
structure Cell where
 kept:List Int
 seen:List Int
 wear:Int
structure Dv where
 cells:List Cell
 done:List (Nat × List Int)
 most:Int
 budget:Int
 down:Bool
structure Cell.Ok (c:Cell):Prop where
 k:c.kept.length=64
 s:c.seen.length=64
 w:0≤c.wear∧c.wear≤100000
structure Dv.Ok (d:Dv):Prop where
 c:∀ c ∈ d.cells,c.Ok
 n:d.cells.length≤4096
 ds:∀ x ∈ d.done,x.1 < d.cells.length∧x.2.length=64
 m:d.most≤100000
 b:-1≤d.budget∧d.budget≤9223372036854775807
def dv(pc:Nat)(vd:Value)(d:Dv):List Value:=[sl pc 0 d.cells.length 259,vd,int d.most,int d.budget,.bool d.down]
def Dv.has(d:Dv)(at':Int):Prop:=0≤at'∧at' < d.cells.length
instance (d:Dv) (at':Int):Decidable (d.has at'):=by unfold Dv.has; infer_instance
variable{pd pc:Nat}{vd:Value}{d:Dv}{a:Int}
def zdK:Cell:=⟨zeros,zeros,0⟩
def Dv.cell(d:Dv)(a:Int):Cell:=d.cells.getD a.toNat zdK
theorem Dv.get{d:Dv}{a:Int}(h:d.has a):∃ hi:a.toNat < d.cells.length,d.cells[a.toNat]=d.cell a:=by
 have hi:a.toNat < d.cells.length:=by have:=h.1; have:=h.2; omega
 refine⟨hi,?_⟩
 unfold Dv.cell
 rw[List.getD_eq_getElem?_getD,List.getElem?_eq_getElem hi]; rfl
theorem Dv.cellOk{d:Dv}{a:Int}(ok:∀ c ∈ d.cells,c.Ok)(h:d.has a):(d.cell a).Ok:=by
 obtain⟨hi,e⟩:=Dv.get h
 rw[← e]
 exact ok _ (List.getElem_mem hi)
def Dv.read(d:Dv)(a:Int):List Int × Int:=if d.has a then ((d.cell a).seen,0) else (zeros,61)
def Dv.step(d:Dv):Dv:={ d with down:=d.down || decide (d.budget=0),budget:=if ¬ (d.down=true∨d.budget=0)∧0 < d.budget then d.budget - 1 else d.budget }
end J
set_option maxRecDepth 100000
namespace J
open Go Go.Ab
variable{H:Heap}{Γ:List (Nat × Blk)}{K:VH}{v w x:Value}{xs ys:List Int}{j p:Nat}{e:Int}
variable{pd pc:Nat}{vd:Value}{d:Dv}{a:Int}{s:List Int}
def Dv.upd(d:Dv)(a:Int)(c:Cell):Dv:={ d with cells:=d.cells.set a.toNat c }
def Dv.put(d:Dv)(a:Int)(s:List Int):Dv:={ d with cells:=d.cells.set a.toNat { d.cell a with seen:=s },done:=d.done++[(a.toNat,s)] }
end J
set_option maxRecDepth 100000
namespace J
open Go Go.Ab
variable{H:Heap}{Γ:List (Nat × Blk)}{K:VH}{v w x:Value}{xs ys:List Int}{j p:Nat}{e:Int}
variable{pd pc:Nat}{vd:Value}{d:Dv}{a:Int}{s:List Int}
theorem Dv.step_ok(ok:d.Ok):d.step.Ok:=⟨ok.c,ok.n,ok.ds,ok.m,by
 have:=ok.b
 unfold Dv.step
 by_cases h:¬ (d.down=true∨d.budget=0)∧0 < d.budget
 ·rw[if_pos h]; have:=h.2; show -1≤d.budget - 1∧d.budget - 1≤_; omega
 ·rw[if_neg h]; exact this⟩
theorem zRy{l:List Cell}{i:Nat}{c:Cell}(h:∀ c ∈ l,c.Ok)(hc:c.Ok):∀ x ∈ l.set i c,x.Ok:=by
 intro x hx
 rcases List.mem_or_eq_of_mem_set hx with h'|h'
 ·exact h x h'
 ·rw[h']; exact hc
theorem Dv.put_ok(ok:d.Ok)(h:d.has a)(hs:s.length=64):(d.put a s).Ok:=by
 have hc:=Dv.cellOk ok.c h
 refine⟨zRy ok.c ⟨hc.k,hs,hc.w⟩,by show (d.cells.set _ _).length≤_; rw[List.length_set]; exact ok.n,?_,ok.m,ok.b⟩
 intro x hx
 show x.1 < (d.cells.set _ _).length∧_
 rw[List.length_set]
 rcases List.mem_append.1 hx with hx|hx
 ·exact ok.ds x hx
 ·have:x=(a.toNat,s):=by simpa using hx
  subst this
  exact⟨by have:=h.1; have:=h.2; show a.toNat < _; omega,hs⟩
def Dv.erase(d:Dv)(a:Int):Dv × Int:=
 if ¬ d.has a then (d,61) else if d.down=true then (d,62) else if d.most≤(d.cell a).wear then (d,64) else if d.step.down=true then (d.step,62)
 else ((d.step.upd a { d.cell a with wear:=(d.cell a).wear+1 }).put a blank,0)
def Dv.program(d:Dv)(a:Int)(s:List Int):Dv × Int:=
 if ¬ d.has a then (d,61) else if d.down=true then (d,62) else if (d.cell a).seen≠blank then (d,63) else if d.step.down=true then (d.step,62)
 else (d.step.put a s,0)
end J
set_option maxRecDepth 100000
namespace J
open Go Go.Ab
variable{H:Heap}{Γ:List (Nat × Blk)}{K:VH}{v w x:Value}{xs ys:List Int}{j p:Nat}{e:Int}
variable{pd pc:Nat}{vd:Value}{d:Dv}{a:Int}{s:List Int}
end J
set_option maxRecDepth 100000
namespace J
open Go Go.Ab
variable{H:Heap}{Γ:List (Nat × Blk)}{K:VH}{v w x:Value}{xs ys:List Int}{j p:Nat}{e:Int}
variable{pd pc:Nat}{vd:Value}{d:Dv}{a:Int}{s:List Int}
end J
set_option maxRecDepth 100000
namespace J
open Go Go.Ab
variable{H:Heap}{Γ:List (Nat × Blk)}{K:VH}{v w x:Value}{xs ys:List Int}{j p:Nat}{e:Int}
variable{pd pc:Nat}{vd:Value}{d:Dv}{a:Int}{s:List Int}
def zuI:Cell:=⟨blank,blank,0⟩
def Dv.new(n:Nat)(w:Int):Dv:=⟨List.replicate n zuI,[],w,-1,false⟩
end J
set_option maxRecDepth 100000
namespace J
open Go Go.Ab
variable{H:Heap}{Γ:List (Nat × Blk)}{K:VH}{v w x:Value}{xs ys:List Int}{j p:Nat}{e:Int}
structure Op where
 kind:Int
 part:Int
 pos:Int
 who:Int
structure Mp where
 d:Dv
 spans:List (Nat × Nat)
 who:Int
 ops:List Op
def opC(o:Op):List Value:=[int o.kind,int o.part,int o.pos,int o.who]
structure Mloc where
 pm:Nat
 pd:Nat
 pc:Nat
 ps:Nat
 vd:Value
 vo:Value
def mv(L:Mloc)(m:Mp):List Value:=[ptr L.pd 0,sl L.ps 0 m.spans.length 4,int m.who,L.vo]
structure Mloc.Eq (L L':Mloc):Prop where
 m:L'.pm=L.pm
 d:L'.pd=L.pd
 c:L'.pc=L.pc
 s:L'.ps=L.ps
structure Mp.Ok (m:Mp):Prop where
 d:m.d.Ok
 s:∀ x ∈ m.spans,x.1+x.2≤m.d.cells.length
 n:m.spans.length≤16
def Mp.Sm(m:Mp)(N:Nat):Prop:=m.d.done.length≤N∧m.ops.length≤N
variable{L:Mloc}{m:Mp}{part pos:Int}
def Mp.has(m:Mp)(part:Int):Prop:=0≤part∧part < m.spans.length
instance:Decidable (m.has part):=by unfold Mp.has; infer_instance
def Mp.span(m:Mp)(part:Int):Nat × Nat:=m.spans.getD part.toNat (0,0)
def Mp.size(m:Mp)(part:Int):Nat:=if m.has part then (m.span part).2 else 0
def Mp.place(m:Mp)(part pos:Int):Int × Int:=if ¬ m.has part then (0,71) else if pos < 0∨(m.span part).2≤pos then (0,61) else ((m.span part).1+pos,0)
def Mp.read(m:Mp)(part pos:Int):List Int × Int:=if (m.place part pos).2≠0 then (zeros,(m.place part pos).2) else m.d.read (m.place part pos).1
def Mp.note(m:Mp)(o:Op)(e:Int):Mp:=if e=0 then { m with ops:=m.ops++[{ o with who:=m.who }] } else m
end J
set_option maxRecDepth 100000
namespace J
open Go Go.Ab
variable{H:Heap}{Γ:List (Nat × Blk)}{K:VH}{v w x:Value}{xs ys:List Int}{j p:Nat}{e:Int}
variable{L:Mloc}{m:Mp}{part pos:Int}{s:List Int}
def Mp.erase(m:Mp)(part pos:Int):Mp × Int:=if (m.place part pos).2≠0 then (m,(m.place part pos).2) else (({ m with d:=(m.d.erase (m.place part pos).1).1 }:Mp).note ⟨1,part,pos,0⟩ (m.d.erase (m.place part pos).1).2,(m.d.erase (m.place part pos).1).2)
def Mp.program(m:Mp)(part pos:Int)(s:List Int):Mp × Int:=if (m.place part pos).2≠0 then (m,(m.place part pos).2) else (({ m with d:=(m.d.program (m.place part pos).1 s).1 }:Mp).note ⟨2,part,pos,0⟩ (m.d.program (m.place part pos).1 s).2,(m.d.program (m.place part pos).1 s).2)
theorem Mp.Sm.mono{N M:Nat}(h:m.Sm N)(hm:N≤M):m.Sm M:=⟨Nat.le_trans h.1 hm,Nat.le_trans h.2 hm⟩
theorem Mloc.Eq.rfl':L.Eq L:=⟨rfl,rfl,rfl,rfl⟩
theorem Mloc.Eq.trans{L L' L'':Mloc}(h:L.Eq L')(h':L'.Eq L''):L.Eq L'':=⟨h'.m.trans h.m,h'.d.trans h.d,h'.c.trans h.c,h'.s.trans h.s⟩
end J
set_option maxRecDepth 100000
namespace J
open Go Go.Ab
variable{H:Heap}{Γ:List (Nat × Blk)}{K:VH}{v w x:Value}{xs ys bs:List Int}{j p:Nat}{e:Int}
variable{L:Mloc}{m:Mp}{part pos:Int}{s:List Int}
end J
set_option maxRecDepth 100000
namespace J
open Go Go.Ab
def rr(x n:Nat):Nat:=x / 2 ^ n ||| x * 2 ^ (32 - n) % 4294967296
def zqg(x:Nat)(l:List Nat):Nat:=l.foldl (fun o n=>o ^^^ rr x n) 0
def zLu(b:List Int)(t:Nat):Nat:=16777216 * (b.getD (4 * t) 0).toNat+65536 * (b.getD (4 * t+1) 0).toNat+256 * (b.getD (4 * t+2) 0).toNat+(b.getD (4 * t+3) 0).toNat
def zam(b:List Int)(w:List Nat)(t:Nat):Nat:=if t < 16 then zLu b t else
 (w.getD (t - 16) 0+(zqg (w.getD (t - 15) 0) [7,18] ^^^ w.getD (t - 15) 0 / 8)+w.getD (t - 7) 0+(zqg (w.getD (t - 2) 0) [17,19] ^^^ w.getD (t - 2) 0 / 1024)) % 4294967296
def wUp(b:List Int):Nat→List Nat
 | 0=>[]
 | t+1=>wUp b t++[zam b (wUp b t) t]
def chF(e f g:Nat):Nat:=(e &&& f) ^^^ ((4294967295 - e) &&& g)
def zxG(a b c:Nat):Nat:=((a &&& b) ^^^ (a &&& c)) ^^^ (b &&& c)
structure W8 where
 a:Nat
 b:Nat
 c:Nat
 d:Nat
 e:Nat
 f:Nat
 g:Nat
 h:Nat
structure W8.Ok (x:W8):Prop where
 a:x.a < 4294967296
 b:x.b < 4294967296
 c:x.c < 4294967296
 d:x.d < 4294967296
 e:x.e < 4294967296
 f:x.f < 4294967296
 g:x.g < 4294967296
 h:x.h < 4294967296
def W8.l(x:W8):List Nat:=[x.a,x.b,x.c,x.d,x.e,x.f,x.g,x.h]
def t1F(x:W8)(k w:Nat):Nat:=(x.h+zqg x.e [6,11,25]+chF x.e x.f x.g+k+w) % 4294967296
def t2F(x:W8):Nat:=(zqg x.a [2,13,22]+zxG x.a x.b x.c) % 4294967296
def zvI(x:W8)(k w:Nat):W8:=⟨(t1F x k w+t2F x) % 4294967296,x.a,x.b,x.c,(x.d+t1F x k w) % 4294967296,x.e,x.f,x.g⟩
def zfk:List Nat:=[0x428a2f98,0x71374491,0xb5c0fbcf,0xe9b5dba5,0x3956c25b,0x59f111f1,0x923f82a4,0xab1c5ed5,0xd807aa98,0x12835b01,0x243185be,0x550c7dc3,0x72be5d74,0x80deb1fe,0x9bdc06a7,0xc19bf174,
 0xe49b69c1,0xefbe4786,0x0fc19dc6,0x240ca1cc,0x2de92c6f,0x4a7484aa,0x5cb0a9dc,0x76f988da,0x983e5152,0xa831c66d,0xb00327c8,0xbf597fc7,0xc6e00bf3,0xd5a79147,0x06ca6351,0x14292967,
 0x27b70a85,0x2e1b2138,0x4d2c6dfc,0x53380d13,0x650a7354,0x766a0abb,0x81c2c92e,0x92722c85,0xa2bfe8a1,0xa81a664b,0xc24b8b70,0xc76c51a3,0xd192e819,0xd6990624,0xf40e3585,0x106aa070,
 0x19a4c116,0x1e376c08,0x2748774c,0x34b0bcb5,0x391c0cb3,0x4ed8aa4a,0x5b9cca4f,0x682e6ff3,0x748f82ee,0x78a5636f,0x84c87814,0x8cc70208,0x90befffa,0xa4506ceb,0xbef9a3f7,0xc67178f2]
def ztw(w:List Nat)(x:W8):Nat→W8
 | 0=>x
 | t+1=>zvI (ztw w x t) (zfk.getD t 0) (w.getD t 0)
def zNH(x y:W8):W8:=⟨(x.a+y.a) % 4294967296,(x.b+y.b) % 4294967296,(x.c+y.c) % 4294967296,(x.d+y.d) % 4294967296,(x.e+y.e) % 4294967296,(x.f+y.f) % 4294967296,(x.g+y.g) % 4294967296,(x.h+y.h) % 4294967296⟩
def zyG(s:W8)(b:List Int):W8:=zNH s (ztw (wUp b 64) s 64)
def zzG:W8:=⟨0x6a09e667,0xbb67ae85,0x3c6ef372,0xa54ff53a,0x510e527f,0x9b05688c,0x1f83d9ab,0x5be0cd19⟩
def stN(xs:List Int):Nat→W8
 | 0=>zzG
 | n+1=>zyG (stN xs n) ((xs.drop (64 * n)).take 64)
def dSt(xs:List Int):W8:=stN xs (xs.length / 64)
def zuw(xs:List Int):List Int:=xs.drop (64 * (xs.length / 64))
def be8(n:Nat):List Int:=(List.range 8).map fun i=>((n / 2 ^ (56 - 8 * i) % 256:Nat):Int)
def zZm(n:Nat):Nat:=(119 - n % 64) % 64
def zCB(xs:List Int):List Int:=xs++[128]++List.replicate (zZm xs.length) 0++be8 (8 * xs.length)
def be4(w:Nat):List Int:=[((w / 16777216 % 256:Nat):Int),((w / 65536 % 256:Nat):Int),((w / 256 % 256:Nat):Int),((w % 256:Nat):Int)]
def zrg(s:W8):List Int:=s.l.flatMap be4
def sha(xs:List Int):List Int:=zrg (dSt (zCB xs))
theorem zfo{x n:Nat}(h:x < 4294967296):rr x n < 4294967296:=Nat.or_lt_two_pow (n:=32) (Nat.lt_of_le_of_lt (Nat.div_le_self _ _) h) (Nat.mod_lt _ (by omega))
theorem zLx{x:Nat}(h:x < 4294967296):∀ (l:List Nat) (o:Nat),o < 4294967296→l.foldl (fun o n=>o ^^^ rr x n) o < 4294967296
 | [],_,ho=>ho
 | n::l,o,ho=>zLx h l _ (Nat.xor_lt_two_pow (n:=32) ho (zfo h))
theorem zbm{x:Nat}{l:List Nat}(h:x < 4294967296):zqg x l < 4294967296:=zLx h l 0 (by omega)
theorem zwI{e f g:Nat}(he:e < 4294967296)(hf:f < 4294967296)(hg:g < 4294967296):chF e f g < 4294967296:=
 Nat.xor_lt_two_pow (n:=32) (Nat.and_lt_two_pow (n:=32) _ hf) (Nat.and_lt_two_pow (n:=32) _ hg)
theorem zAG{a b c:Nat}(hb:b < 4294967296)(hc:c < 4294967296):zxG a b c < 4294967296:=
 Nat.xor_lt_two_pow (n:=32) (Nat.xor_lt_two_pow (n:=32) (Nat.and_lt_two_pow (n:=32) _ hb) (Nat.and_lt_two_pow (n:=32) _ hc)) (Nat.and_lt_two_pow (n:=32) _ hc)
theorem zBG{x:W8}{k w:Nat}(h:x.Ok):(zvI x k w).Ok:=⟨Nat.mod_lt _ (by omega),h.a,h.b,h.c,Nat.mod_lt _ (by omega),h.e,h.f,h.g⟩
theorem zKp{x:W8}{w:List Nat}(h:x.Ok):∀ t,(ztw w x t).Ok
 | 0=>h
 | t+1=>zBG (zKp h t)
theorem zCG{x y:W8}:(zNH x y).Ok:=⟨Nat.mod_lt _ (by omega),Nat.mod_lt _ (by omega),Nat.mod_lt _ (by omega),Nat.mod_lt _ (by omega),Nat.mod_lt _ (by omega),Nat.mod_lt _ (by omega),Nat.mod_lt _ (by omega),Nat.mod_lt _ (by omega)⟩
theorem zDG:zzG.Ok:=⟨by decide,by decide,by decide,by decide,by decide,by decide,by decide,by decide⟩
theorem zMu{xs:List Int}:∀ n,(stN xs n).Ok
 | 0=>zDG
 | n+1=>zCG
theorem zLp{b:List Int}:∀ t,(wUp b t).length=t
 | 0=>rfl
 | t+1=>by show (wUp b t++[_]).length=t+1; rw[List.length_append,zLp t]; rfl
theorem zrd{b:List Int}(h:∀ x ∈ b,0≤x∧x≤255)(i:Nat):(b.getD i 0).toNat < 256:=by
 rw[List.getD_eq_getElem?_getD]
 by_cases hi:i < b.length
 ·rw[List.getElem?_eq_getElem hi]
  have:=h _ (List.getElem_mem hi)
  show (b[i]).toNat < 256
  omega
 ·rw[List.getElem?_eq_none (by omega)]; decide
theorem zjE{b:List Int}(h:∀ x ∈ b,0≤x∧x≤255)(t:Nat):zLu b t < 4294967296:=by
 have h0:=zrd h (4 * t)
 have h1:=zrd h (4 * t+1)
 have h2:=zrd h (4 * t+2)
 have h3:=zrd h (4 * t+3)
 unfold zLu
 omega
theorem zkE{b:List Int}{w:List Nat}(h:∀ x ∈ b,0≤x∧x≤255)(t:Nat):zam b w t < 4294967296:=by
 unfold zam
 split
 ·exact zjE h t
 ·exact Nat.mod_lt _ (by omega)
theorem zNu{b:List Int}(h:∀ x ∈ b,0≤x∧x≤255):∀ t,∀ x ∈ wUp b t,x < 4294967296
 | 0,x,hx=>by cases hx
 | t+1,x,hx=>by
  rcases List.mem_append.1 (show x ∈ wUp b t++[zam b (wUp b t) t] from hx) with hx|hx
  ·exact zNu h t x hx
  ·rw[List.mem_singleton.1 hx]; exact zkE h t
theorem getD_lt{w:List Nat}(h:∀ x ∈ w,x < 4294967296)(i:Nat):w.getD i 0 < 4294967296:=by
 rw[List.getD_eq_getElem?_getD]
 by_cases hi:i < w.length
 ·rw[List.getElem?_eq_getElem hi]; exact h _ (List.getElem_mem hi)
 ·rw[List.getElem?_eq_none (by omega)]; show 0 < _; omega
theorem zDB{xs ys:List Int}:∀ n,64 * n≤xs.length→stN (xs++ys) n=stN xs n
 | 0,_=>rfl
 | n+1,h=>by
  show zyG (stN (xs++ys) n) (((xs++ys).drop (64 * n)).take 64)=zyG (stN xs n) ((xs.drop (64 * n)).take 64)
  rw[zDB n (by omega),List.drop_append_of_le_length (by omega),List.take_append_of_le_length (by rw[List.length_drop]; omega)]
theorem zMp{xs:List Int}:(zuw xs).length=xs.length % 64:=by
 unfold zuw
 rw[List.length_drop]; omega
theorem zYs{n:Nat}:(be8 n).length=8:=by unfold be8; rw[List.length_map,List.length_range]
theorem zlE{xs:List Int}:(zCB xs).length % 64=0:=by
 unfold zCB
 rw[List.length_append,List.length_append,List.length_append,List.length_replicate,zYs]
 show (xs.length+1+zZm xs.length+8) % 64=0
 unfold zZm
 omega
theorem zEG{a b c d:Nat}(ha:a < 256)(hb:b < 256)(hc:c < 256)(hd:d < 256):((a * 2 ^ 24 % 4294967296 ||| b * 2 ^ 16 % 4294967296) ||| c * 2 ^ 8 % 4294967296) ||| d=16777216 * a+65536 * b+256 * c+d:=by
 have h1:∀ {x k:Nat},x < 2 ^ (32 - k)→k≤32→x * 2 ^ k % 4294967296=2 ^ k * x:=by
  intro x k hx hk
  rw[Nat.mul_comm]
  refine Nat.mod_eq_of_lt ?_
  have:2 ^ k * x < 2 ^ k * 2 ^ (32 - k):=Nat.mul_lt_mul_of_pos_left hx (Nat.two_pow_pos k)
  rwa [← Nat.pow_add,show k+(32 - k)=32 from Nat.add_sub_cancel' hk] at this
 rw[h1 (k:=24) (Nat.lt_of_lt_of_le ha (by decide)) (by decide),h1 (k:=16) (Nat.lt_of_lt_of_le hb (by decide)) (by decide),h1 (k:=8) (Nat.lt_of_lt_of_le hc (by decide)) (by decide)]
 rw[← Nat.two_pow_add_eq_or_of_lt (i:=24) (show 2 ^ 16 * b < 2 ^ 24 from Nat.lt_of_lt_of_le (Nat.mul_lt_mul_of_pos_left hb (by decide)) (by decide))]
 have e4:2 ^ 24 * a+2 ^ 16 * b=2 ^ 16 * (2 ^ 8 * a+b):=by rw[Nat.mul_add,← Nat.mul_assoc]
 rw[e4,← Nat.two_pow_add_eq_or_of_lt (i:=16) (show 2 ^ 8 * c < 2 ^ 16 from Nat.lt_of_lt_of_le (Nat.mul_lt_mul_of_pos_left hc (by decide)) (by decide))]
 have e5:2 ^ 16 * (2 ^ 8 * a+b)+2 ^ 8 * c=2 ^ 8 * (2 ^ 8 * (2 ^ 8 * a+b)+c):=by rw[Nat.mul_add (2 ^ 8) _ c,← Nat.mul_assoc (2 ^ 8) (2 ^ 8)]
 rw[e5,← Nat.two_pow_add_eq_or_of_lt (i:=8) (Nat.lt_of_lt_of_le hd (by decide))]
end J
set_option maxRecDepth 100000
namespace J
open Go Go.Ab
variable{H:Heap}{Γ Γ0 Γ2 Δ G:List (Nat × Blk)}{K:VH}{v w x:Value}{xs ys bs b:List Int}{j p:Nat}{e:Int}
abbrev u32(n:Nat):Value:=zsb .u32 n
theorem zan{p o lo hi:Nat}(h:p < lo):znq (zBa [ptr p o]) lo hi:=by
 show outside [p] lo hi=true
 simp[outside,zpb,blt_eq,h]
theorem wrap_u64{n:Int}(h:-9223372036854775808≤n)(hn:n < 0):zxc .u64 n=((18446744073709551616 - n.natAbs:Nat):Int):=by
 obtain⟨m,rfl⟩:∃ m:Nat,n=Int.negSucc m:=⟨n.natAbs - 1,by omega⟩
 show ((18446744073709551616 - 1 - m % 18446744073709551616:Nat):Int)=_
 rw[Nat.mod_eq_of_lt (by omega)]
 congr 1
 show _=18446744073709551616 - (m+1)
 omega
theorem zvw{a n:Nat}(ha:a < 4294967296)(hn:0 < n)(hn2:n < 32)(hk:K (u32 (rr a n)) H):wCall P zFc [u32 a,int (-(n:Int))] H K:=by
 apply zch; unfold zHe
 refine zva (v:=zsb .u64 (18446744073709551616 - n)) (H':=H) (by
  show some (Value.int .u64 (zxc .u64 (-(n:Int))),H)=_
  rw[wrap_u64 (by omega) (by omega),show (-(n:Int)).natAbs=n by omega]) ?_
 refine zaa (v:=zsb .u64 (32 - n)) (by
  rw[show (Value.int .u64 31)=zsb .u64 31 from rfl,zke rfl (show 18446744073709551616 - n < szU .u64 from (show _ < 18446744073709551616 by omega)) (by decide)]
  congr 2
  have:(18446744073709551616 - n) &&& 31=(18446744073709551616 - n) % 32:=Nat.and_two_pow_sub_one_eq_mod _ 5
  rw[this]
  congr 1
  omega) ?_
 refine zaa (zLj (k:=.u32) rfl (show 32 - n≤32 by omega)) ?_
 refine zaa (v:=zsb .u64 n) (by
  rw[show (Value.int .u64 32)=zsb .u64 32 from rfl,zAs rfl (by omega) (by decide)]
  congr 3
  omega) ?_
 refine zaa (zEf (k:=.u32) rfl (show n≤32 by omega)) ?_
 refine zaa (zNk (k:=.u32) rfl (show a * 2 ^ (32 - n) % szU .u32 < szU .u32 from Nat.mod_lt _ (by decide)) (show a / 2 ^ n < 4294967296 from Nat.lt_of_le_of_lt (Nat.div_le_self _ _) ha)) ?_
 rw[Nat.or_comm]
 exact hk
theorem zcm{a:Nat}{l:List Nat}{q c j:Nat}{wr:Bool}(ha:a < 4294967296)(hl:∀ n ∈ l,0 < n∧n < 32)(hn:l.length≤1000)(hO:St H Γ)(hj:Γ[j]?=some (q,(⟨l.map fun (n:Nat)=>int n,wr⟩:Blk)))(hk:K (u32 (zqg a l)) H) :
  wCall P zOc [u32 a,sl q 0 l.length c] H K:=by
 apply zKq; unfold zJp
 refine zva zCf ?_
 refine zXl (fun k l' H'=>H'=H∧∃ y:Nat,y≤l.length∧k=l.length - y∧l'=[u32 a,.int .u32 0,u32 (zqg a (l.take y)),sl q 0 l.length c,int l.length,int y]) _ _ ?_ l.length _ _ ⟨rfl,0,by omega,rfl,rfl⟩
 rintro k l' H' ⟨rfl,y,hy,rfl,rfl⟩
 unfold zBk
 try simp only[zia,zja]
 refine zaa zMa ?_
 refine zma (fun h=>?_) (fun h=>?_)
 ·have hyl:y < l.length:=by omega
  obtain⟨h1,h2⟩:=hl _ (List.getElem_mem hyl)
  refine zaa (zqb (by omega) (by omega)) ?_
  refine zoa hO j hj (v:=int (l[y]:Nat)) (by simp[hyl]) ?_
  refine zaa (v:=int (-(l[y]:Int))) (by
   show some (Value.int .i64 (zxc .i64 (0 - (l[y]:Int))))=_
   rw[ztn (by omega) (by omega),show (0:Int) - (l[y]:Int)=-(l[y]:Int) by omega]) ?_
  refine zvw ha h1 h2 ?_
  refine zaa (zQb (k:=.u32) rfl (zbm ha) (zfo ha)) ?_
  repeat (first|refine oi ?_|refine ow ?_|refine wy ?_|refine wn ?_|refine wt ?_|refine wf' ?_|refine cy ?_|refine cn ?_)
  refine⟨_,by omega,(by first|rfl|trivial),y+1,by omega,rfl,?_⟩
  have e:zqg a (l.take (y+1))=zqg a (l.take y) ^^^ rr a l[y]:=by
   unfold zqg
   rw[List.take_succ_eq_append_getElem hyl,List.foldl_append]; rfl
  rw[e]; rfl
 ·have ey:y=l.length:=by omega
  subst ey
  rw[List.take_of_length_le (Nat.le_refl _)]
  refine zZa rfl ?_
  exact hk
def w8C(x:W8):List Value:=x.l.map fun (n:Nat)=>u32 n
theorem zVK:zc P 164=List.replicate 8 (u32 0):=by kernel_rfl
theorem zxI:zc P 208=List.replicate 64 (u32 0):=by kernel_rfl
theorem zSy(hO:St H Γ)(hk:∀ H' p,St H' (Γ++[(p,⟨zfk.map fun (n:Nat)=>u32 n,true⟩)])→K (ptr p 0) H'):wCall P zYg [] H K:=by
 apply zIp; unfold zMn
 refine zaa (v:=agg (zfk.map fun (n:Nat)=>u32 n)) (by kernel_rfl) ?_
 exact zeb hO fun p H'=>hk H' p
theorem zTy(hO:St H Γ)(hk:∀ H',St H' Γ→K (agg (w8C zzG)) H'):wCall P zWg [] H K:=by
 apply zFp; unfold zKn
 rw[zVK]
 refine zeb hO ?_
 clear hO
 intro p H hO
 refine zaa (v:=agg (w8C zzG)) (by kernel_rfl) ?_
 refine zya hO (Γ.length+0) (zwa rfl) rfl rfl rfl ?_
 clear hO
 intro H hO
 replace hO:=hO.set_r
 refine zFa hO (Γ.length+0) (zwa rfl) rfl (by omega) ?_
 exact hk _ hO.left
theorem zWK(a b:Int)(H:Heap):(zla P 234 2).f [(0,.int .i64 a),(1,.int .i64 b)] H=some (sl H.next 0 2 3,H.push [int a,int b]):=by kernel_rfl
theorem zXK(a b c:Int)(H:Heap):(zla P 234 3).f [(0,.int .i64 a),(1,.int .i64 b),(2,.int .i64 c)] H=some (sl H.next 0 3 3,H.push [int a,int b,int c]):=by kernel_rfl
def wC(w:List Nat):List Value:=(w.map fun (n:Nat)=>u32 n)++List.replicate (64 - w.length) (u32 0)
theorem zHr{w:List Nat}(h:w.length≤64):(wC w).length=64:=by simp[wC]; omega
theorem zEB{w:List Nat}{i:Nat}(h:i < w.length):(wC w)[i]?=some (u32 (w.getD i 0)):=by
 unfold wC
 rw[List.getElem?_append_left (by simpa using h)]
 simp[h]
theorem zyI{w:List Nat}{n:Nat}(h:w.length < 64):(wC w).set w.length (u32 n)=wC (w++[n]):=by
 unfold wC
 rw[List.set_append_right _ _ (by simp)]
 simp
 obtain⟨m,hm⟩:∃ m,64 - w.length=m+1:=⟨63 - w.length,by omega⟩
 rw[hm,List.replicate_succ,show 63 - w.length=m by omega]
 rfl
theorem zOu{w:List Nat}:(wC w).all zab=true:=by simp[wC,zab,zie]
theorem zMq{K:VH}(hO:St H Γ)(h:RdB Γ v b)(hb:∀ x ∈ b,0≤x∧x≤255){i:Int}{n:Nat}(hn:i=n)(hi:n < b.length)(hk:K (zsb .u8 (b.getD n 0).toNat) H):opP (zQc 1 v (int i)) fun t=>opW (zda t H) K:=by
 obtain⟨p,o,c,j,bl,rfl,h1,h2⟩:=h.at hi
 subst hn
 refine zaa (zqb (by omega) (by omega)) ?_
 rw[Int.toNat_natCast,Nat.mul_one]
 refine zoa hO j h1 (v:=.int .u8 b[n]) h2 ?_
 have e:b.getD n 0=b[n]:=by rw[List.getD_eq_getElem?_getD,List.getElem?_eq_getElem hi]; rfl
 rw[e] at hk
 have:=hb _ (List.getElem_mem hi)
 have e2:(Value.int .u8 b[n])=zsb .u8 (b[n]).toNat:=zOk this.1
 rw[e2]; exact hk
set_option maxHeartbeats 2000000 in
theorem zww(hO:St H Γ)(hv:RdB Γ v b)(hb:∀ x ∈ b,0≤x∧x≤255)(hl:b.length=64)(hk:∀ H',St H' Γ→K (agg (wC (wUp b 64))) H'):wCall P zre [v] H K:=by
 apply zeo; unfold zWl
 rw[zxI]
 refine zeb hO ?_
 clear hO
 intro p2 H hO
 refine zeb hO ?_
 clear hO
 intro p3 H hO
 rw[List.append_assoc] at hO
 replace hO:St H (Γ++[(p2,⟨List.replicate 64 (u32 0),true⟩),(p3,⟨wC [],true⟩)]):=hO
 refine zek (fun k l' H'=>∃ (y:Nat) (Δ:List (Nat × Blk)),y≤64∧k=64 - y∧l'=[v,ptr p2 0,ptr p3 0,int y]∧St H' (Γ++([(p2,⟨List.replicate 64 (u32 0),true⟩),(p3,⟨wC (wUp b y),true⟩)]++Δ))) _ _ ?_ 64 _ _ ⟨0,[],by omega,rfl,rfl,by rw[List.append_nil]; exact hO⟩
 clear hO
 rintro k l' H ⟨y,Δ,hy,rfl,rfl,hO⟩
 unfold zxi
 try simp only[zia,zja]
 have hwl:=zLp (b:=b) y
 have i3:∀ {w:List Nat} {R R2:List (Nat × Blk)},((Γ++([(p2,(⟨List.replicate 64 (u32 0),true⟩:Blk)),(p3,⟨wC w,true⟩)]++R))++R2)[Γ.length+1]?=some (p3,⟨wC w,true⟩):=zCa (zwa rfl)
 have i3':∀ {w:List Nat} {R:List (Nat × Blk)},(Γ++([(p2,(⟨List.replicate 64 (u32 0),true⟩:Blk)),(p3,⟨wC w,true⟩)]++R))[Γ.length+1]?=some (p3,⟨wC w,true⟩):=zwa rfl
 refine zaa zMa ?_
 refine zma (fun h=>?_) (fun h=>?_)
 ·have fin:∀ {H':Heap} {R:List (Nat × Blk)} {n:Nat},n=zam b (wUp b y) y→St H' ((Γ++([(p2,(⟨List.replicate 64 (u32 0),true⟩:Blk)),(p3,⟨wC (wUp b y),true⟩)]++R)).set (Γ.length+1) (p3,⟨(wC (wUp b y)).set (0+y * 1) (u32 n),true⟩))→St H' (Γ++([(p2,⟨List.replicate 64 (u32 0),true⟩),(p3,⟨wC (wUp b (y+1)),true⟩)]++R)):=by
   intro H' R n hn h'
   have h2:=h'.set_r
   subst hn
   have e:(wC (wUp b y)).set (0+y * 1) (u32 (zam b (wUp b y) y))=wC (wUp b (y+1)):=by
    have:=zyI (w:=wUp b y) (n:=zam b (wUp b y) y) (by omega)
    rw[hwl] at this
    rw[show 0+y * 1=y by omega]; exact this
   rw[e] at h2; exact h2
  refine zaa zMa ?_
  refine zma (fun h16=>?_) (fun h16=>?_)
  ·have g0:=zrd hb (4 * y)
   have g1:=zrd hb (4 * y+1)
   have g2:=zrd hb (4 * y+2)
   have g3:=zrd hb (4 * y+3)
   have m4:(zpa P .mul 3 true).f (.int .i64 4) (int y)=some (int ((4 * y:Nat):Int)):=by rw[zBg (by omega) (by omega),show (4:Int) * (y:Int)=((4 * y:Nat):Int) by omega]
   refine zaa m4 ?_
   refine zMq hO hv.app hb rfl (by omega) ?_
   refine zva (cvU (k':=.u32) rfl) ?_
   rw[show ∀ n,n < 256→n % szU .u32=n from fun n hn=>Nat.mod_eq_of_lt (show n < 4294967296 by omega)] <;> try exact g0
   refine zaa (zLj (k:=.u32) (n:=24) rfl (by decide)) ?_
   refine zaa m4 ?_
   refine zaa (zLc (by omega) (by omega)) ?_
   refine zMq hO hv.app hb (n:=4 * y+1) (by omega) (by omega) ?_
   refine zva (cvU (k':=.u32) rfl) ?_
   rw[Nat.mod_eq_of_lt (show (b.getD (4 * y+1) 0).toNat < szU .u32 from (show _ < 4294967296 by omega))]
   refine zaa (zLj (k:=.u32) (n:=16) rfl (by decide)) ?_
   refine zaa (zNk (k:=.u32) rfl (Nat.mod_lt _ (by decide)) (Nat.mod_lt _ (by decide))) ?_
   refine zaa m4 ?_
   refine zaa (zLc (by omega) (by omega)) ?_
   refine zMq hO hv.app hb (n:=4 * y+2) (by omega) (by omega) ?_
   refine zva (cvU (k':=.u32) rfl) ?_
   rw[Nat.mod_eq_of_lt (show (b.getD (4 * y+2) 0).toNat < szU .u32 from (show _ < 4294967296 by omega))]
   refine zaa (zLj (k:=.u32) (n:=8) rfl (by decide)) ?_
   refine zaa (zNk (k:=.u32) rfl (Nat.or_lt_two_pow (n:=32) (Nat.mod_lt _ (by decide)) (Nat.mod_lt _ (by decide))) (Nat.mod_lt _ (by decide))) ?_
   refine zaa m4 ?_
   refine zaa (zLc (by omega) (by omega)) ?_
   refine zMq hO hv.app hb (n:=4 * y+3) (by omega) (by omega) ?_
   refine zva (cvU (k':=.u32) rfl) ?_
   rw[Nat.mod_eq_of_lt (show (b.getD (4 * y+3) 0).toNat < szU .u32 from (show _ < 4294967296 by omega))]
   refine zaa (zNk (k:=.u32) rfl (Nat.or_lt_two_pow (n:=32) (Nat.or_lt_two_pow (n:=32) (Nat.mod_lt _ (by decide)) (Nat.mod_lt _ (by decide))) (Nat.mod_lt _ (by decide))) (show _ < 4294967296 by omega)) ?_
   refine zaa (zta (by omega) (by omega)) ?_
   rw[Int.toNat_natCast]
   refine zNa hO (Γ.length+1) i3' rfl (by rw[zHr (by omega)]; omega) rfl ?_
   clear hO
   intro H hO
   replace hO:=fin (R:=Δ) (by
    unfold zam zLu
    rw[if_pos (by omega)]
    exact zEG g0 g1 g2 g3) hO
   repeat (first|refine oi ?_|refine ow ?_|refine wy ?_|refine wn ?_|refine wt ?_|refine wf' ?_|refine cy ?_|refine cn ?_)
   exact⟨_,by omega,y+1,Δ,by omega,rfl,rfl,hO⟩
  ·have hlt:∀ i,(wUp b y).getD i 0 < 4294967296:=getD_lt (zNu hb y)
   have hp3:p3 < H.next:=hO.lt (p3,⟨wC (wUp b y),true⟩) (List.mem_of_getElem? i3')
   have sm:∀ {H1:Heap} {R:List (Nat × Blk)} {o:Nat},St H1 ((Γ++([(p2,(⟨List.replicate 64 (u32 0),true⟩:Blk)),(p3,⟨wC (wUp b y),true⟩)]++Δ))++R)→zSa (zRa H1 H1) (zBa [ptr p3 o]):=fun h1=>zcb h1 (Γ.length+1) i3 h1 (Γ.length+1) i3 zOu
   refine zaa (zBb (by omega) (by omega)) ?_
   refine zaa (zta (by omega) (by omega)) ?_
   rw[show ((y:Int) - 15).toNat=y - 15 by omega]
   refine zoa hO (Γ.length+1) i3' (v:=u32 ((wUp b y).getD (y - 15) 0)) (by rw[show 0+(y - 15) * 1=y - 15 by omega]; exact zEB (by omega)) ?_
   refine zaa (zBb (by omega) (by omega)) ?_
   refine zaa (zta (by omega) (by omega)) ?_
   rw[show ((y:Int) - 2).toNat=y - 2 by omega]
   refine zoa hO (Γ.length+1) i3' (v:=u32 ((wUp b y).getD (y - 2) 0)) (by rw[show 0+(y - 2) * 1=y - 2 by omega]; exact zEB (by omega)) ?_
   refine zaa (zBb (by omega) (by omega)) ?_
   refine zaa (zta (by omega) (by omega)) ?_
   rw[show ((y:Int) - 16).toNat=y - 16 by omega]
   refine zoa hO (Γ.length+1) i3' (v:=u32 ((wUp b y).getD (y - 16) 0)) (by rw[show 0+(y - 16) * 1=y - 16 by omega]; exact zEB (by omega)) ?_
   refine zDa hO (zWK _ _ _) ?_
   clear hO
   intro q H hO
   refine zcm (l:=[7,18]) (hlt _) (by intro n hn; simp at hn; omega) (by simp) hO (j:=_+0) (zwa rfl) ?_
   refine⟨sm hO,?_⟩
   refine zaa (zEf (k:=.u32) (n:=3) rfl (by decide)) ?_
   refine zaa (zQb (k:=.u32) rfl (zbm (hlt _)) (Nat.lt_of_le_of_lt (Nat.div_le_self _ _) (hlt _))) ?_
   refine zaa (zfd (k:=.u32) rfl) ?_
   refine zaa (zBb (by omega) (by omega)) ?_
   refine zaa (zta (by omega) (by omega)) ?_
   rw[show ((y:Int) - 7).toNat=y - 7 by omega]
   refine zoa hO (Γ.length+1) i3 (v:=u32 ((wUp b y).getD (y - 7) 0)) (by rw[show 0+(y - 7) * 1=y - 7 by omega]; exact zEB (by omega)) ?_
   refine⟨sm hO,zan hp3,?_⟩
   refine zaa (zfd (k:=.u32) rfl) ?_
   refine zDa hO (zWK _ _ _) ?_
   clear hO
   intro q2 H hO
   refine zcm (l:=[17,19]) (hlt _) (by intro n hn; simp at hn; omega) (by simp) hO (j:=_+0) (zwa rfl) ?_
   rw[List.append_assoc (Γ++_)] at hO
   refine⟨sm hO,sm hO,?_⟩
   refine zaa (zEf (k:=.u32) (n:=10) rfl (by decide)) ?_
   refine zaa (zQb (k:=.u32) rfl (zbm (hlt _)) (Nat.lt_of_le_of_lt (Nat.div_le_self _ _) (hlt _))) ?_
   refine zaa (zfd (k:=.u32) rfl) ?_
   refine zaa (zta (by omega) (by omega)) ?_
   rw[Int.toNat_natCast]
   rw[List.append_assoc Γ,List.append_assoc [_,_]] at hO
   refine zNa hO (Γ.length+1) i3' rfl (by rw[zHr (by omega)]; omega) rfl ?_
   clear hO
   intro H hO
   replace hO:=fin (R:=_) (by
    unfold zam
    rw[if_neg (by omega)]
    generalize zqg ((wUp b y).getD (y - 15) 0) [7,18] ^^^ (wUp b y).getD (y - 15) 0 / 2 ^ 3=X
    generalize zqg ((wUp b y).getD (y - 2) 0) [17,19] ^^^ (wUp b y).getD (y - 2) 0 / 2 ^ 10=Y
    have e32:szU .u32=4294967296:=rfl
    rw[e32]
    omega) hO
   repeat (first|refine oi ?_|refine ow ?_|refine wy ?_|refine wn ?_|refine wt ?_|refine wf' ?_|refine cy ?_|refine cn ?_)
   exact⟨_,by omega,y+1,_,by omega,rfl,rfl,hO⟩
 ·have ey:y=64:=by omega
  subst ey
  refine zZa rfl ?_
  try simp only[zia,zja]
  refine zFa hO (Γ.length+1) i3' (zHr (by omega)) (by omega) ?_
  refine zya hO (Γ.length+0) (zwa rfl) (by simp) (zHr (by omega)) (by simp[wC,oneCell]) ?_
  clear hO
  intro H hO
  replace hO:=hO.set_r
  refine zFa hO (Γ.length+0) (zwa rfl) (zHr (by omega)) (by omega) ?_
  exact hk _ hO.left
end J
set_option maxRecDepth 100000
namespace J
open Go Go.Ab
variable{H:Heap}{Γ Γ0 Γ2 Δ G:List (Nat × Blk)}{K:VH}{v w x:Value}{xs ys bs b:List Int}{j p:Nat}{e:Int}
theorem zFG{o n c i q o2 n2 c2:Nat}{cs:List Value}{K:VH}(hO:St H Γ)(hi:Γ[i]?=some (q,⟨cs,true⟩))(hn:n2≤n)(hp:0 < n2)(hl:o+n≤cs.length)(hl2:o2+n2≤cs.length)(h1:cs.all oneCell=true)
  (hk:∀ H',St H' (Γ.set i (q,⟨cs.take o++((cs.drop o2).take n2++cs.drop (o+n2)),true⟩))→K (int n2) H'):opW (zni 1 (sl q o n c) (sl q o2 n2 c2) H) K:=by
 have hlen:((cs.drop o2).take n2).length=n2:=by rw[List.length_take,List.length_drop]; omega
 obtain⟨H',hw,hs⟩:=zts hO (o:=o) (vs:=(cs.drop o2).take n2) hi (by omega) (by
  rw[List.all_eq_true] at h1 ⊢
  exact fun x hx=>h1 x (List.mem_of_mem_drop (List.mem_of_mem_take hx)))
 unfold zni
 simp only[show lenA (sl q o2 n2 c2)=some n2 from rfl]
 have hm:Nat.min n2 n=n2:=Nat.min_eq_left hn
 rw[hm]
 have hb:Nat.beq n2 0=false:=by
  cases hb:Nat.beq n2 0 with
  | false=>rfl
  | true=>have:=Nat.eq_of_beq_eq_true hb; omega
 rw[hb]
 simp only[Bool.false_eq_true,if_false]
 have hg:=hO.at i hi (.inl rfl)
 have he:ztg H 1 n2 (sl q o2 n2 c2)=some ((cs.drop o2).take (n2 * 1)):=zHj hg (by show o2+n2 * 1≤cs.length; omega)
 rw[he,Nat.mul_one]
 simp only
 rw[hw]
 refine zva (show some (Value.int .i64 ((n2:Nat):Int),H')=_ from rfl) ?_
 rw[hlen] at hs
 exact hk _ hs
theorem zUy(x:W8):(w8C x).all zab=true:=rfl
theorem zZs(x:W8):(w8C x).all oneCell=true:=rfl
theorem zFB:(zfk.map fun (n:Nat)=>u32 n).all zab=true:=by simp[zab,zie]
theorem zeK{i:Nat}(h:i < 64):(zfk.map fun (n:Nat)=>u32 n)[i]?=some (u32 (zfk.getD i 0)):=by
 have hl:zfk.length=64:=rfl
 simp[hl,h]
theorem zfK(i:Nat):zfk.getD i 0 < 4294967296:=getD_lt (by decide) i
theorem zzI(x:W8)(k w:Nat) :
  ((((x.h+zqg x.e [6,11,25]) % 4294967296+chF x.e x.f x.g) % 4294967296+k) % 4294967296+w) % 4294967296=t1F x k w:=by
 unfold t1F
 generalize zqg x.e [6,11,25]=A
 generalize chF x.e x.f x.g=B
 omega
set_option maxHeartbeats 8000000 in
theorem zAI{p2 p4 p5 p16 p7:Nat}{s:W8}{ws:List Nat}{Qx:LX}{Qr:LN}(hs:s.Ok)(hw:∀ x ∈ ws,x < 4294967296)(hwl:ws.length=64){j5 j16:Nat}(h5:Γ[j5]?=some (p5,⟨wC ws,true⟩))(h16:Γ[j16]?=some (p16,⟨zfk.map fun (n:Nat)=>u32 n,true⟩))
  (hO:St H (Γ++[(p7,⟨w8C s,true⟩)])) (hk:∀ H' Δ,St H' ((Γ++[(p7,⟨w8C (ztw ws s 64),true⟩)])++Δ)→Qx 0 [ptr p2 0,ptr p4 0,ptr p7 0] H') :
  zHb P true 97 zSd 148 [ptr p2 0,ptr p4 0,ptr p5 0,ptr p16 0,ptr p7 0,int 0] H Qx Qr:=by
 refine zei (fun k l' H'=>∃ (y:Nat) (Δ:List (Nat × Blk)),y≤64∧k=64 - y∧l'=[ptr p2 0,ptr p4 0,ptr p5 0,ptr p16 0,ptr p7 0,int y]∧St H' ((Γ++[(p7,⟨w8C (ztw ws s y),true⟩)])++Δ)) _ _ ?_ 64 _ _ ⟨0,[],by omega,rfl,rfl,by rw[List.append_nil]; exact hO⟩
 clear hO
 rintro k l' H ⟨y,Δ,hy,rfl,rfl,hO⟩
 unfold zdg
 try simp only[zia,zja]
 refine zaa zMa ?_
 refine zma (fun h=>?_) (fun h=>?_)
 rotate_left
 ·have ey:y=64:=by omega
  subst ey
  exact hk _ _ hO
 have hxo:=zKp (w:=ws) hs y
 have ew:ws.getD y 0 < 4294967296:=getD_lt hw y
 have er:ztw ws s (y+1)=zvI (ztw ws s y) (zfk.getD y 0) (ws.getD y 0):=rfl
 generalize ztw ws s y=x at *
 have i7:∀ {R:List (Nat × Blk)},(((Γ++[(p7,(⟨w8C x,true⟩:Blk))])++Δ)++R)[Γ.length+0]?=some (p7,⟨w8C x,true⟩):=zCa (zCa (zwa rfl))
 have i7':((Γ++[(p7,(⟨w8C x,true⟩:Blk))])++Δ)[Γ.length+0]?=some (p7,⟨w8C x,true⟩):=zCa (zwa rfl)
 have i5:∀ {R:List (Nat × Blk)},(((Γ++[(p7,(⟨w8C x,true⟩:Blk))])++Δ)++R)[j5]?=some (p5,⟨wC ws,true⟩):=zCa (zCa (zCa h5))
 have i16:∀ {R:List (Nat × Blk)},(((Γ++[(p7,(⟨w8C x,true⟩:Blk))])++Δ)++R)[j16]?=some (p16,⟨zfk.map fun (n:Nat)=>u32 n,true⟩):=zCa (zCa (zCa h16))
 have lt7:p7 < H.next:=hO.lt _ (List.mem_of_getElem? i7')
 have lt5:p5 < H.next:=hO.lt _ (List.mem_of_getElem? (zCa (zCa h5)))
 have lt16:p16 < H.next:=hO.lt _ (List.mem_of_getElem? (zCa (zCa h16)))
 have sm7:∀ {H1:Heap} {R:List (Nat × Blk)} {o:Nat},St H1 (((Γ++[(p7,(⟨w8C x,true⟩:Blk))])++Δ)++R)→zSa (zRa H1 H1) (zBa [ptr p7 o]):=fun h1=>zcb h1 _ i7 h1 _ i7 (zUy x)
 have sm5:∀ {H1:Heap} {R:List (Nat × Blk)} {o:Nat},St H1 (((Γ++[(p7,(⟨w8C x,true⟩:Blk))])++Δ)++R)→zSa (zRa H1 H1) (zBa [ptr p5 o]):=fun h1=>zcb h1 _ i5 h1 _ i5 zOu
 have sm16:∀ {H1:Heap} {R:List (Nat × Blk)} {o:Nat},St H1 (((Γ++[(p7,(⟨w8C x,true⟩:Blk))])++Δ)++R)→zSa (zRa H1 H1) (zBa [ptr p16 o]):=fun h1=>zcb h1 _ i16 h1 _ i16 zFB
 have e32:szU .u32=4294967296:=rfl
 refine zaa (zta (by omega) (by omega)) ?_
 refine zoa hO _ i7' (v:=u32 x.a) rfl ?_
 refine zaa (zta (by omega) (by omega)) ?_
 refine zoa hO _ i7' (v:=u32 x.e) rfl ?_
 refine zaa (zta (by omega) (by omega)) ?_
 refine zoa hO _ i7' (v:=u32 x.h) rfl ?_
 refine zDa hO (zXK _ _ _ _) ?_
 clear hO
 intro q H2 hO
 refine zcm (l:=[6,11,25]) hxo.e (by intro n hn; simp at hn; omega) (by simp) hO (j:=_+0) (zwa rfl) ?_
 refine⟨sm7 hO,?_⟩
 refine zaa (zfd (k:=.u32) rfl) ?_
 refine zaa (zta (by omega) (by omega)) ?_
 refine zoa hO _ i7 (v:=u32 x.f) rfl ?_
 refine⟨sm7 hO,zan lt7,?_⟩
 refine zaa (zke (k:=.u32) rfl hxo.e hxo.f) ?_
 refine zaa (zpG (k:=.u32) rfl hxo.e) ?_
 refine zaa (zta (by omega) (by omega)) ?_
 refine zoa hO _ i7 (v:=u32 x.g) rfl ?_
 refine⟨sm7 hO,zan lt7,?_⟩
 have hne:szU .u32 - 1 - x.e < szU .u32:=by rw[e32]; omega
 refine zaa (zke (k:=.u32) rfl hne hxo.g) ?_
 refine zaa (zQb (k:=.u32) rfl (Nat.and_lt_two_pow (n:=32) _ hxo.f) (Nat.and_lt_two_pow (n:=32) _ hxo.g)) ?_
 refine zaa (zfd (k:=.u32) rfl) ?_
 refine zaa zca ?_
 refine zaa (zta (by omega) (by omega)) ?_
 rw[Int.toNat_natCast]
 refine zoa hO _ i16 (v:=u32 (zfk.getD y 0)) (by rw[show 0+y * 1=y by omega]; exact zeK (by omega)) ?_
 refine⟨sm16 hO,zan lt16,?_⟩
 refine zaa (zfd (k:=.u32) rfl) ?_
 refine zaa (zta (by omega) (by omega)) ?_
 rw[Int.toNat_natCast]
 refine zoa hO _ i5 (v:=u32 (ws.getD y 0)) (by rw[show 0+y * 1=y by omega]; exact zEB (by omega)) ?_
 refine⟨sm5 hO,zan lt5,?_⟩
 refine zaa (zfd (k:=.u32) rfl) ?_
 have eone:=zzI x (zfk.getD y 0) (ws.getD y 0)
 rw[e32,show (x.e &&& x.f) ^^^ ((4294967296 - 1 - x.e) &&& x.g)=chF x.e x.f x.g from rfl,eone]
 have lt7b:p7 < H2.next:=hO.lt _ (List.mem_of_getElem? i7)
 refine zDa hO (zXK _ _ _ _) ?_
 clear hO
 intro q2 H3 hO
 refine zcm (l:=[2,13,22]) hxo.a (by intro n hn; simp at hn; omega) (by simp) hO (j:=_+0) (zwa rfl) ?_
 rw[List.append_assoc (_++Δ)] at hO
 refine zaa (zta (by omega) (by omega)) ?_
 refine zoa hO _ i7 (v:=u32 x.b) rfl ?_
 refine⟨sm7 hO,zan lt7b,?_⟩
 refine zaa (zke (k:=.u32) rfl hxo.a hxo.b) ?_
 refine zaa (zta (by omega) (by omega)) ?_
 refine zoa hO _ i7 (v:=u32 x.c) rfl ?_
 refine⟨sm7 hO,zan lt7b,?_⟩
 refine zaa (zke (k:=.u32) rfl hxo.a hxo.c) ?_
 refine zaa (zQb (k:=.u32) rfl (Nat.and_lt_two_pow (n:=32) _ hxo.b) (Nat.and_lt_two_pow (n:=32) _ hxo.c)) ?_
 refine zaa (zta (by omega) (by omega)) ?_
 refine zoa hO _ i7 (v:=u32 x.b) rfl ?_
 refine⟨sm7 hO,zan lt7b,?_⟩
 refine zaa (zta (by omega) (by omega)) ?_
 refine zoa hO _ i7 (v:=u32 x.c) rfl ?_
 refine⟨sm7 hO,zan lt7b,?_⟩
 refine zaa (zke (k:=.u32) rfl hxo.b hxo.c) ?_
 refine zaa (zQb (k:=.u32) rfl (Nat.xor_lt_two_pow (n:=32) (Nat.and_lt_two_pow (n:=32) _ hxo.b) (Nat.and_lt_two_pow (n:=32) _ hxo.c)) (Nat.and_lt_two_pow (n:=32) _ hxo.c)) ?_
 refine zaa (zfd (k:=.u32) rfl) ?_
 rw[e32,show ((x.a &&& x.b) ^^^ (x.a &&& x.c)) ^^^ (x.b &&& x.c)=zxG x.a x.b x.c from rfl,show (zqg x.a [2,13,22]+zxG x.a x.b x.c) % 4294967296=t2F x from rfl]
 have hg:=hO.at _ i7 (.inl rfl)
 refine zaa (show zJb 8 1 (ptr p7 0) (some (int 1)) none none H3=some (sl p7 1 7 3) by unfold zJb; simp only[hg]; rfl) ?_
 refine zaa (show zJb 8 1 (ptr p7 0) none (some (int 7)) none H3=some (sl p7 0 7 2) by unfold zJb; simp only[hg]; rfl) ?_
 refine zFG hO i7 (by omega) (by omega) (show 1+7≤8 by omega) (show 0+7≤8 by omega) (zZs x) ?_
 clear hO hg
 intro H4 hO
 have y7:∀ {c c':List Value} {R:List (Nat × Blk)},((((Γ++[(p7,(⟨c,true⟩:Blk))])++Δ)++R).set (Γ.length+0) (p7,⟨c',true⟩))=(((Γ++[(p7,(⟨c',true⟩:Blk))])++Δ)++R):=by
  intro c c' R
  rw[List.set_append_left _ _ (by simp),List.set_append_left _ _ (by simp),Go.Ab.set_r]; rfl
 have z7:∀ {c:List Value} {R:List (Nat × Blk)},(((Γ++[(p7,(⟨c,true⟩:Blk))])++Δ)++R)[Γ.length+0]?=some (p7,⟨c,true⟩):=zCa (zCa (zwa rfl))
 rw[y7] at hO
 refine zaa (zta (by omega) (by omega)) ?_
 refine zoa hO _ z7 (v:=u32 x.d) rfl ?_
 refine zaa (zfd (k:=.u32) rfl) ?_
 refine zaa (zta (by omega) (by omega)) ?_
 refine zNa hO _ z7 rfl (show 4 < 8 by omega) (show _=[u32 x.a,u32 x.a,u32 x.b,u32 x.c,u32 ((x.d+t1F x (zfk.getD y 0) (ws.getD y 0)) % 4294967296),u32 x.e,u32 x.f,u32 x.g] from rfl) ?_
 clear hO
 intro H5 hO
 rw[y7] at hO
 refine zaa (zfd (k:=.u32) rfl) ?_
 refine zaa (zta (by omega) (by omega)) ?_
 refine zNa hO _ z7 rfl (show 0 < 8 by omega) (show _=w8C (zvI x (zfk.getD y 0) (ws.getD y 0)) from rfl) ?_
 clear hO
 intro H6 hO
 rw[y7] at hO
 repeat (first|refine oi ?_|refine ow ?_|refine wy ?_|refine wn ?_|refine wt ?_|refine wf' ?_|refine cy ?_|refine cn ?_)
 rw[List.append_assoc (Γ++_),← er] at hO
 exact⟨64 - (y+1),by omega,y+1,_,by omega,rfl,rfl,hO⟩
end J
set_option maxRecDepth 100000
namespace J
open Go Go.Ab
variable{H:Heap}{Γ Γ0 Γ2 Δ G:List (Nat × Blk)}{K:VH}{v w x:Value}{xs ys bs b:List Int}{j p:Nat}{e:Int}
theorem zGB{l:List Value}{i:Nat}{v:Value}(h:l[i]?=some v):i < l.length:=(List.getElem?_eq_some_iff.1 h).1
def zxw(a b:List Nat)(y:Nat):List Nat:=(List.range a.length).map fun i=>if i < y then (a.getD i 0+b.getD i 0) % 4294967296 else a.getD i 0
theorem zat{a b:List Nat}{y:Nat}:(zxw a b y).length=a.length:=by unfold zxw; rw[List.length_map,List.length_range]
theorem zbt{a b:List Nat}{y i:Nat}(h:i < a.length):(zxw a b y)[i]?=some (if i < y then (a.getD i 0+b.getD i 0) % 4294967296 else a.getD i 0):=by
 unfold zxw
 rw[List.getElem?_map,List.getElem?_range h]; rfl
theorem zMx{a b:List Nat}{y:Nat}(h:y < a.length):(zxw a b y).set y ((a.getD y 0+b.getD y 0) % 4294967296)=zxw a b (y+1):=by
 apply List.ext_getElem?
 intro i
 rw[List.getElem?_set]
 by_cases hi:i < a.length
 ·rw[zbt hi,zbt hi]
  by_cases he:y=i
  ·subst he
   rw[if_pos rfl,if_pos (by rw[zat]; exact h),if_pos (Nat.lt_succ_self y)]
  ·rw[if_neg he]
   by_cases hlt:i < y
   ·rw[if_pos hlt,if_pos (by omega)]
   ·rw[if_neg hlt,if_neg (by omega)]
 ·rw[if_neg (by omega),List.getElem?_eq_none (by rw[zat]; omega),List.getElem?_eq_none (by rw[zat]; omega)]
theorem zfF{s R:W8}:zxw s.l R.l 8=(zNH s R).l:=rfl
theorem zBI{s R:W8}{p2 p4 p7:Nat}{T:List (Nat × Blk)}{Qx:LX}{Qr:LN}(i7:T[2]?=some (p7,⟨w8C R,true⟩))
  (hO:St H (Γ++([(p2,⟨w8C s,true⟩),(p4,⟨List.replicate 8 (u32 0),true⟩)]++T)))
  (hk:∀ H',St H' (Γ++([(p2,⟨w8C (zNH s R),true⟩),(p4,⟨List.replicate 8 (u32 0),true⟩)]++T))→Qx 2 [ptr p2 0,ptr p4 0] H') :
  zHb P true 97 zTd 20 [ptr p2 0,ptr p4 0,ptr p7 0,int 0] H Qx Qr:=by
 refine zfi (fun k l' H'=>∃ (y:Nat),y≤8∧k=8 - y∧l'=[ptr p2 0,ptr p4 0,ptr p7 0,int y]∧St H' (Γ++([(p2,⟨(zxw s.l R.l y).map fun (n:Nat)=>u32 n,true⟩),(p4,⟨List.replicate 8 (u32 0),true⟩)]++T))) _ _ ?_ 8 _ _ ⟨0,by omega,rfl,rfl,hO⟩
 clear hO
 rintro k l' H ⟨y,hy,rfl,rfl,hO⟩
 unfold zeg
 try simp only[zia,zja]
 have hls:s.l.length=8:=rfl
 have hlR:R.l.length=8:=rfl
 refine zaa zMa ?_
 refine zma (fun h=>?_) (fun h=>?_)
 ·have hy8:y < 8:=by omega
  have e32:szU .u32=4294967296:=rfl
  have a1:((zxw s.l R.l y).map fun (n:Nat)=>u32 n)[0+y * 1]?=some (u32 (s.l.getD y 0)):=by
   rw[show 0+y * 1=y by omega,List.getElem?_map,zbt (by omega),if_neg (by omega)]; rfl
  have a2:(w8C R)[0+y * 1]?=some (u32 (R.l.getD y 0)):=by
   unfold w8C
   rw[show 0+y * 1=y by omega,List.getElem?_map,List.getElem?_eq_getElem (by omega),List.getD_eq_getElem?_getD,List.getElem?_eq_getElem (by omega)]; rfl
  have a3:((zxw s.l R.l y).map fun (n:Nat)=>u32 n).set (0+y * 1) (u32 ((s.l.getD y 0+R.l.getD y 0) % 4294967296))=(zxw s.l R.l (y+1)).map fun (n:Nat)=>u32 n:=by
   rw[← zMx (by omega),List.map_set,show 0+y * 1=y by omega]
  refine zaa (zta (by omega) (by omega)) ?_
  rw[Int.toNat_natCast]
  refine zoa hO (Γ.length+0) (zwa rfl) a1 ?_
  refine zaa (zta (by omega) (by omega)) ?_
  rw[Int.toNat_natCast]
  refine zoa hO (Γ.length+(2+2)) (zwa (zwa (Γ:=[_,_]) i7)) a2 ?_
  refine zaa (zfd (k:=.u32) rfl) ?_
  refine zaa (zta (by omega) (by omega)) ?_
  rw[Int.toNat_natCast,e32]
  refine zNa hO (Γ.length+0) (zwa rfl) rfl (zGB a1) a3 ?_
  clear hO
  intro H hO
  replace hO:=hO.set_r
  repeat (first|refine oi ?_|refine ow ?_|refine wy ?_|refine wn ?_|refine wt ?_|refine wf' ?_|refine cy ?_|refine cn ?_)
  exact⟨_,by omega,y+1,by omega,rfl,rfl,hO⟩
 ·have ey:y=8:=by omega
  subst ey
  rw[zfF] at hO
  exact hk _ hO
set_option maxHeartbeats 4000000 in
theorem zmE{s:W8}(hs:s.Ok)(hO:St H Γ)(hv:RdB Γ v b)(hb:∀ x ∈ b,0≤x∧x≤255)(hl:b.length=64)(hk:∀ H',St H' Γ→K (agg (w8C (zyG s b))) H'):wCall P zsc [agg (w8C s),v] H K:=by
 apply zVk; unfold zri
 refine zeb hO ?_
 clear hO
 intro p2 H hO
 rw[zVK]
 refine zeb hO ?_
 clear hO
 intro p4 H hO
 rw[List.append_assoc] at hO
 replace hO:St H (Γ++[(p2,⟨w8C s,true⟩),(p4,⟨List.replicate 8 (u32 0),true⟩)]):=hO
 refine zww hO hv.app hb hl ?_
 clear hO
 intro H hO
 refine zSy hO ?_
 clear hO
 intro H p16 hO
 rw[zxI]
 refine zeb hO ?_
 clear hO
 intro p5 H hO
 have hwl:(wUp b 64).length=64:=zLp 64
 refine zya hO (_+0) (zwa rfl) (by simp) (zHr (by omega)) (by simp[wC,oneCell]) ?_
 clear hO
 intro H hO
 replace hO:=hO.set_r
 refine zFa hO (Γ.length+0) (zCa (zCa (zwa rfl))) rfl (by omega) ?_
 refine zeb hO ?_
 clear hO
 intro p7 H hO
 refine zya hO (_+0) (zwa rfl) (by simp) rfl (zZs s) ?_
 clear hO
 intro H hO
 replace hO:=hO.set_r
 refine zAI (ws:=wUp b 64) hs (zNu hb 64) hwl (zwa (k:=0) rfl) (zCa (zwa (k:=0) rfl)) hO ?_
 clear hO
 intro H Δ hO
 refine zZa rfl ?_
 try simp only[zia,zja]
 generalize hR:ztw (wUp b 64) s 64=R at *
 have ho:=zKp (w:=wUp b 64) hs 64
 have hm:zyG s b=zNH s R:=by unfold zyG; rw[hR]
 replace hO:St H (Γ++([(p2,⟨w8C s,true⟩),(p4,⟨List.replicate 8 (u32 0),true⟩)]++([(p16,⟨zfk.map fun (n:Nat)=>u32 n,true⟩)]++([(p5,⟨wC (wUp b 64),true⟩)]++([(p7,⟨w8C R,true⟩)]++Δ))))):=by
  have h2:=hO
  simp only[List.append_assoc] at h2
  exact h2
 obtain⟨T,hT⟩:∃ T,T=([(p16,(⟨zfk.map fun (n:Nat)=>u32 n,true⟩:Blk))]++([(p5,⟨wC (wUp b 64),true⟩)]++([(p7,⟨w8C R,true⟩)]++Δ))):=⟨_,rfl⟩
 have i7:T[2]?=some (p7,⟨w8C R,true⟩):=by rw[hT]; rfl
 rw[← hT] at hO
 clear hT
 refine zBI i7 hO ?_
 clear hO
 intro H hO
 rw[← hm] at hO
 refine zZa rfl ?_
 try simp only[zia,zja]
 refine zFa hO (Γ.length+0) (zwa rfl) rfl (by omega) ?_
 refine zya hO (Γ.length+1) (zwa rfl) rfl rfl (zZs _) ?_
 clear hO
 intro H hO
 replace hO:=hO.set_r
 refine zFa hO (Γ.length+1) (zwa rfl) rfl (by omega) ?_
 exact hk _ hO.left
end J
set_option maxRecDepth 100000
namespace J
open Go Go.Ab
variable{H:Heap}{Γ Γ0 Γ2 Δ G:List (Nat × Blk)}{K:VH}{v w x:Value}{xs ys zs bs b:List Int}{j p pd:Nat}{e:Int}{cs:List Value}
def OwnO(v:Value)(xs:List Int)(cs:List Value):Prop:=
 (v=zqa∧xs=[]∧cs=[])∨∃ p o,(v=sl p o xs.length 2∨v=sl p o xs.length 3)∧(cs.drop o).take xs.length=by8 xs∧o+xs.length≤cs.length∧cs.all zab=true
theorem OwnB.o(h:OwnB v xs cs):OwnO v xs cs:=by
 rcases h with h|⟨p,h1,h2,h3,h4⟩
 ·exact .inl h
 ·refine .inr ⟨p,0,?_,by rw[List.drop_zero]; exact h2,by omega,h4⟩
  rcases h1 with h1|⟨h1,_⟩
  ·exact .inl h1
  ·exact .inr h1
theorem OwnO.rd(h:OwnO v xs cs):RdB (zKa v cs) v xs:=by
 rcases h with⟨rfl,rfl,_⟩|⟨p,o,h1|h1,h2,h3,h4⟩
 ·exact .nil
 ·subst h1; exact .inr ⟨p,o,2,rfl,.inl rfl,.inr ⟨0,⟨cs,true⟩,rfl,h2⟩⟩
 ·subst h1; exact .inr ⟨p,o,3,rfl,.inr rfl,.inr ⟨0,⟨cs,true⟩,rfl,h2⟩⟩
theorem zVy(hO:St H (Γ++zKa v cs))(hv:OwnO v xs cs)(hx:RdB Γ x ys)(hl:xs.length+ys.length≤1000000000)
  (hk:∀ H' v' cs',St H' (Γ++zKa v' cs')→OwnO v' (xs++ys) cs'→K v' H'):opW (zsa 1 1 v x H) K:=by
 rcases hv with⟨rfl,rfl,rfl⟩|⟨p,o,hv,h2,h3,h4⟩
 ·exact zEc (xs:=[]) hO .nil hx hl fun H' v' cs' h1 h2=>hk H' v' cs' h1 (OwnB.o h2)
 unfold zsa
 simp only[hx.lenA,hx.app.elems hO]
 by_cases hy:ys=[]
 ·subst hy
  rw[List.append_nil] at hk
  have e:zdd 1 1 v ([]:List Value) 0 H=some (v,H):=by
   unfold zdd
   rcases hv with rfl|rfl <;> rfl
  exact zva (show zdd 1 1 v ([]:List Value) 0 H=some (v,H) from e) (hk _ _ _ hO (.inr ⟨p,o,hv,h2,h3,h4⟩))
 have hpos:0 < ys.length:=List.length_pos_iff.2 hy
 have hmb:Nat.beq ys.length 0=false:=by
  cases hb:Nat.beq ys.length 0 with
  | false=>rfl
  | true=>have:=Nat.eq_of_beq_eq_true hb; omega
 have h1:(by8 ys).all oneCell=true:=by simp[oneCell]
 have own':∀ p,OwnO (sl p 0 (xs.length+ys.length) 2) (xs++ys) (by8 xs++by8 ys):=fun p=>by
  refine .inr ⟨p,0,.inl (by rw[List.length_append]),?_,by simp,by simp[zab,zie]⟩
  rw[List.drop_zero,List.take_of_length_le (by simp)]
  exact (List.map_append).symm
 unfold zdd
 have hΓ:zKa v cs=[(p,⟨cs,true⟩)]:=by rcases hv with rfl|rfl <;> rfl
 rw[hΓ] at hO
 have hi:(Γ++[(p,(⟨cs,true⟩:Blk))])[Γ.length]?=some (p,⟨cs,true⟩):=by simp
 have hget:=hO.at _ hi (.inl rfl)
 rcases hv with rfl|rfl
 ·have her:=hO.erase hi
  have he:(Γ++[(p,(⟨cs,true⟩:Blk))]).eraseIdx Γ.length=Γ:=by
   rw[List.eraseIdx_append_of_length_le (Nat.le_refl _)]; simp
  rw[he] at her
  simp only[hmb,Bool.false_eq_true,if_false]
  rw[if_pos (zNi (by omega) (by omega))]
  rw[if_neg (show ¬ Nat.beq 2 (2 * 1+1)=true by decide),if_pos (show Nat.beq 2 (2 * 1)=true by decide)]
  unfold zKe
  rw[hget]
  have e:(Heap.mayWrite H p ⟨cs,true⟩ && (Nat.ble (o+xs.length * 1) (zmf cs) && zzj oneCell (by8 ys)))=true:=by
   unfold Heap.mayWrite
   rw[hO.fl,zLa,zpb,h1,zVb,zVb,decide_eq_true (by omega:o+xs.length * 1≤cs.length)]
   simp
  simp only[e]
  have e2:zDi (zSj (takeN cs (o+xs.length * 1)) o) (by8 ys)=by8 xs++by8 ys:=by
   rw[zob,zKb,zAb,List.drop_take,Nat.mul_one,Nat.add_sub_cancel_left,h2]
  rw[e2]
  exact zva (show zzb (by8 xs++by8 ys) (xs.length+ys.length) (2 * 1) (H.set p none)=some (sl H.next 0 (xs.length+ys.length) 2,(H.set p none).push (by8 xs++by8 ys)) from rfl) (hk _ _ _ (her.push _) (own' _))
 ·simp only[hmb,Bool.false_eq_true,if_false]
  rw[if_pos (zNi (by omega) (by omega))]
  rw[if_pos (show Nat.beq 3 (2 * 1+1)=true by decide)]
  unfold zid
  have e3:(if Nat.beq xs.length 0=true then some [] else zPc H p o (xs.length * 1))=some (by8 xs):=by
   split
   ·rename_i h0
    have h0:=Nat.eq_of_beq_eq_true h0
    have:xs=[]:=List.length_eq_zero_iff.1 h0
    rw[this]; rfl
   ·rw[zkd]
    rw[hget]
    simp only[zGh,zAb,zKb,zLa,Nat.mul_one]
    rw[h2,List.length_map,Nat.beq_refl]
  rw[e3]
  simp only[zob]
  exact zva (show zzb (by8 xs++by8 ys) (xs.length+ys.length) (2 * 1) H=some (sl H.next 0 (xs.length+ys.length) 2,H.push (by8 xs++by8 ys)) from rfl) (hk _ _ _ (hO.left.push _) (own' _))
theorem zxo{len n:Nat}(h:n≤len):zjd len (some (int (n:Int)))=some n:=by
 show (match leB 0 (n:Int) with|true=>(match Nat.ble (n:Int).toNat len with|true=>some (n:Int).toNat|false=>none)|false=>none)=_
 rw[zRc,decide_eq_true (by omega)]
 simp only[Int.toNat_natCast]
 rw[Nat.ble_eq_true_of_le h]
theorem zCI(h:OwnO v xs cs){n:Nat}(hn:n≤xs.length)(hp:0 < n):∃ v',zTa 1 v (some (int n)) none none=some v'∧OwnO v' (xs.drop n) cs∧zKa v' cs=zKa v cs:=by
 rcases h with⟨rfl,rfl,_⟩|⟨p,o,hv,h2,h3,h4⟩
 ·simp at hn; omega
 have hb:=zxo hn
 have fin:∀ c,(c=2∨c=3)→zTa 1 (sl p o xs.length c) (some (int n)) none none=some (sl p (o+n) (xs.length - n) c):=by
  intro c hc
  unfold zTa
  simp only[zCc,hb]
  rcases hc with rfl|rfl <;> simp[zdl,zLe]
 have hd:(cs.drop (o+n)).take (xs.drop n).length=by8 (xs.drop n):=by
  have:=congrArg (List.drop n) h2
  rw[List.drop_take,List.drop_drop] at this
  rw[List.length_drop,this,by8,by8,List.map_drop]
 rcases hv with rfl|rfl
 ·exact⟨_,fin 2 (.inl rfl),.inr ⟨p,o+n,.inl (by rw[List.length_drop]),hd,by rw[List.length_drop]; omega,h4⟩,rfl⟩
 ·exact⟨_,fin 3 (.inr rfl),.inr ⟨p,o+n,.inr (by rw[List.length_drop]),hd,by rw[List.length_drop]; omega,h4⟩,rfl⟩
def dgW(s:W8)(rv:Value)(n:Nat):List Value:=w8C s++[rv,zsb .u64 n]
abbrev DG(pd:Nat)(s:W8)(rv:Value)(n:Nat)(cs:List Value):List (Nat × Blk):=[(pd,⟨dgW s rv n,true⟩)]++zKa rv cs
theorem zNp(h:OwnO v xs cs):∃ a n c,v=.slice a n c:=by
 rcases h with⟨rfl,_⟩|⟨p,o,rfl|rfl,_⟩ <;> exact⟨_,_,_,rfl⟩
theorem zsd{a b:List Int}(ha:∀ x ∈ a,0≤x∧x≤255)(hb:∀ x ∈ b,0≤x∧x≤255):∀ x ∈ a++b,0≤x∧x≤255:=fun x hx=>by
 rcases List.mem_append.1 hx with hx|hx
 ·exact ha x hx
 ·exact hb x hx
set_option maxHeartbeats 4000000 in
theorem zWy{rv:Value}(hO:St H (Γ++DG pd (dSt xs) rv xs.length cs))(hv:OwnO rv (zuw xs) cs)(hw:RdB Γ w ys)(hx:∀ x ∈ xs,0≤x∧x≤255)(hy:∀ x ∈ ys,0≤x∧x≤255)(hl:xs.length≤100000000)(hl2:ys.length≤100000000)
  (hk:∀ H' rv' cs',St H' (Γ++DG pd (dSt (xs++ys)) rv' (xs++ys).length cs')→OwnO rv' (zuw (xs++ys)) cs'→K (.tuple [].toArray) H'):wCall P zIa [ptr pd 0,w] H K:=by
 apply zAi; unfold zcg
 rw[← List.append_assoc] at hO
 refine zaa zca ?_
 refine zaa zba ?_
 refine zoa hO (Γ.length+0) (zCa (zwa rfl)) (v:=zsb .u64 xs.length) rfl ?_
 refine zva hw.lenSl ?_
 refine zva (zLH (by omega) (by omega)) ?_
 rw[Int.toNat_natCast]
 refine zaa (zfd (k:=.u64) rfl) ?_
 rw[Nat.mod_eq_of_lt (show xs.length+ys.length < szU .u64 from (show _ < 18446744073709551616 by omega))]
 refine zaa zca ?_
 refine zaa zba ?_
 refine zNa hO (Γ.length+0) (zCa (zwa rfl)) rfl (show 9 < 10 by omega) (show _=dgW (dSt xs) rv (xs.length+ys.length) from rfl) ?_
 clear hO
 intro H hO
 rw[List.set_append_left _ _ (by simp),Go.Ab.set_r] at hO
 replace hO:St H ((Γ++[(pd,⟨dgW (dSt xs) rv (xs.length+ys.length),true⟩)])++zKa rv cs):=hO
 refine zaa zca ?_
 refine zaa zba ?_
 refine zoa hO (Γ.length+0) (zCa (zwa rfl)) (v:=rv) rfl ?_
 have hrl:=zMp (xs:=xs)
 refine zVy hO hv hw.app (by omega) ?_
 clear hO
 intro H rv2 cs2 hO hv2
 refine zaa zca ?_
 refine zaa zba ?_
 obtain⟨a0,n0,c0,e0⟩:=zNp hv2
 refine zNa hO (Γ.length+0) (zCa (zwa rfl)) (by rw[e0]; rfl) (show 8 < 10 by omega) (show _=dgW (dSt xs) rv2 (xs.length+ys.length) from rfl) ?_
 clear hO
 intro H hO
 rw[List.set_append_left _ _ (by simp),Go.Ab.set_r] at hO
 replace hO:St H ((Γ++[(pd,⟨dgW (dSt xs) rv2 (xs.length+ys.length),true⟩)])++zKa rv2 cs2):=hO
 have hzl:(xs++ys).length=xs.length+ys.length:=List.length_append
 have hz:=zsd hx hy
 have e1:dSt xs=stN (xs++ys) (xs.length / 64):=(zDB _ (by omega)).symm
 have e2:zuw xs++ys=(xs++ys).drop (64 * (xs.length / 64)):=by
  unfold zuw
  rw[List.drop_append_of_le_length (by omega)]
 rw[e1] at hO
 rw[e2] at hv2
 rw[← hzl] at hO
 clear e0 a0 n0 c0
 generalize hzs:xs++ys=zs at *
 refine zpg (fun k l' H'=>∃ (m:Nat) (rv:Value) (cs:List Value),64 * m≤zs.length∧k=zs.length / 64 - m∧l'=[ptr pd 0]∧St H' ((Γ++[(pd,⟨dgW (stN zs m) rv zs.length,true⟩)])++zKa rv cs)∧OwnO rv (zs.drop (64 * m)) cs) _ _ ?_ (zs.length / 64 - xs.length / 64) _ _ ⟨xs.length / 64,rv2,cs2,by omega,rfl,rfl,hO,hv2⟩
 clear hO hv2
 rintro k l' H ⟨m,rv,cs,hm,rfl,rfl,hO,hv⟩
 unfold zGe
 try simp only[zia,zja]
 refine zaa zca ?_
 refine zaa zba ?_
 refine zoa hO (Γ.length+0) (zCa (zwa rfl)) (v:=rv) rfl ?_
 refine zva hv.rd.lenSl ?_
 refine zaa zSf ?_
 rw[List.length_drop]
 refine zma (fun h=>?_) (fun h=>?_)
 ·refine zaa zca ?_
  refine zaa zba ?_
  refine zua hO (Γ.length+0) (zCa (zwa rfl)) (show _=w8C (stN zs m) from rfl) rfl (by omega) ?_
  refine zaa zca ?_
  refine zaa zba ?_
  refine zoa hO (Γ.length+0) (zCa (zwa rfl)) (v:=rv) rfl ?_
  obtain⟨vh,eh,ih⟩:=zhi (n:=64) hv.rd (by rw[List.length_drop]; omega)
  refine zaa eh ?_
  have hrd:RdB ((Γ++[(pd,(⟨dgW (stN zs m) rv zs.length,true⟩:Blk))])++zKa rv cs) vh ((zs.drop (64 * m)).take 64):=(ih _ hv.rd).app'
  refine zmE (zMu m) hO hrd (fun x hx=>hz x (List.mem_of_mem_drop (List.mem_of_mem_take hx))) (by rw[List.length_take,List.length_drop]; omega) ?_
  clear hO hrd
  intro H hO
  refine zaa zca ?_
  refine zaa zba ?_
  refine zed hO (Γ.length+0) (zCa (zwa rfl)) (show (zza (agg (w8C (zyG (stN zs m) ((zs.drop (64 * m)).take 64))))).length=8 from rfl) (show 0+8≤10 by omega) (zZs _) ?_
  clear hO
  intro H hO
  rw[List.set_append_left _ _ (by simp),Go.Ab.set_r] at hO
  replace hO:St H ((Γ++[(pd,⟨dgW (stN zs (m+1)) rv zs.length,true⟩)])++zKa rv cs):=hO
  refine zaa zca ?_
  refine zaa zba ?_
  refine zoa hO (Γ.length+0) (zCa (zwa rfl)) (v:=rv) rfl ?_
  obtain⟨v3,e3,o3,b3⟩:=zCI (n:=64) hv (by rw[List.length_drop]; omega) (by omega)
  refine zaa e3 ?_
  refine zaa zca ?_
  refine zaa zba ?_
  obtain⟨a0,n0,c0,e0⟩:=zNp o3
  refine zNa hO (Γ.length+0) (zCa (zwa rfl)) (by rw[e0]; rfl) (show 8 < 10 by omega) (show _=dgW (stN zs (m+1)) v3 zs.length from rfl) ?_
  clear hO
  intro H hO
  rw[List.set_append_left _ _ (by simp),Go.Ab.set_r,← b3] at hO
  refine⟨_,?_,m+1,v3,cs,by omega,rfl,(by first|rfl|trivial),hO,?_⟩
  ·omega
  ·rw[List.drop_drop] at o3
   rw[show 64 * (m+1)=64 * m+64 by omega]; exact o3
 ·have em:m=zs.length / 64:=by omega
  subst em
  refine zZa rfl ?_
  refine hk H rv cs ?_ hv
  rw[← List.append_assoc]; exact hO
theorem bDg(s:W8)(a:Option Addr)(n c:Nat)(m:Nat):(zAa P 166).f [(0,agg (w8C s)),(1,.slice a n c),(2,zsb .u64 m)]=some (agg (dgW s (.slice a n c) m)):=by kernel_rfl
theorem zmL(s:W8):(zAa P 166).f [(0,agg (w8C s))]=some (agg (dgW s zqa 0)):=by kernel_rfl
theorem zyo(hO:St H Γ)(hk:∀ H' pd,St H' (Γ++DG pd (dSt []) zqa ([]:List Int).length [])→K (ptr pd 0) H'):wCall P zif [] H K:=by
 apply zUs; unfold zCr
 refine zTy hO ?_
 clear hO
 intro H hO
 refine zaa (zmL _) ?_
 refine zeb hO ?_
 clear hO
 intro pd H hO
 exact hk H pd hO
theorem St.ne'{i j p q:Nat}{b b':Blk}(h:St H Γ)(hi:Γ[i]?=some (p,b))(hj:Γ[j]?=some (q,b'))(hij:i≠j):p≠q:=by
 intro e
 subst e
 have n1:(Γ.map (·.1))[i]?=some p:=by rw[List.getElem?_map,hi]; rfl
 have n2:(Γ.map (·.1))[j]?=some p:=by rw[List.getElem?_map,hj]; rfl
 have hlt:i < (Γ.map (·.1)).length:=by rw[List.length_map]; exact (List.getElem?_eq_some_iff.1 hi).1
 exact hij ((List.getElem?_inj hlt h.nd).1 (n1.trans n2.symm))
theorem zOp{p o:Nat}{rv:Value}{x':List Value}(hO:St H ((Γ++[(p,(⟨x',true⟩:Blk))])++zKa rv cs))(hv:OwnO rv xs cs):zLi (zBa [ptr p o]) (zBa [.slice none 0 0,rv])∧zLi (zBa [.slice none 0 0,rv]) (zBa [ptr p o]):=by
 rcases hv with⟨rfl,_,_⟩|⟨q,o2,hv,_⟩
 ·exact⟨(by first|rfl|trivial),(by first|rfl|trivial)⟩
 have hΓ:zKa rv cs=[(q,⟨cs,true⟩)]:=by rcases hv with rfl|rfl <;> rfl
 rw[hΓ] at hO
 have hne:p≠q:=St.ne' hO (i:=Γ.length+0) (j:=(Γ++[(p,(⟨x',true⟩:Blk))]).length+0) (zCa (zwa rfl)) (zwa rfl) (by simp)
 have e1:Nat.beq p q=false:=by
  cases hb:Nat.beq p q with
  | false=>rfl
  | true=>exact absurd (Nat.eq_of_beq_eq_true hb) hne
 have e2:Nat.beq q p=false:=by
  cases hb:Nat.beq q p with
  | false=>rfl
  | true=>exact absurd (Nat.eq_of_beq_eq_true hb).symm hne
 rcases hv with rfl|rfl
 ·exact⟨by show zPb [p] [q]=true; simp[zPb,zpb,zMz,e1],by show zPb [q] [p]=true; simp[zPb,zpb,zMz,e2]⟩
 ·exact⟨by show zPb [p] [q]=true; simp[zPb,zpb,zMz,e1],by show zPb [q] [p]=true; simp[zPb,zpb,zMz,e2]⟩
end J
set_option maxRecDepth 100000
namespace J
open Go Go.Ab
variable{H:Heap}{Γ Γ0 Γ2 Δ G:List (Nat × Blk)}{K:VH}{v w x:Value}{xs ys zs bs b:List Int}{j p pd:Nat}{e:Int}{cs:List Value}
theorem zXy{s:W8}{rv:Value}{n:Nat}(hO:St H ((Γ++DG pd s rv n cs)++Δ))(hv:OwnO rv xs cs)(hl:xs.length≤1000000000)
  (hk:∀ H' pd' rv' cs',St H' (((Γ++DG pd s rv n cs)++Δ)++DG pd' s rv' n cs')→OwnO rv' xs cs'→K (ptr pd' 0) H'):wCall P zAd [ptr pd 0] H K:=by
 apply zrj; unfold zOg
 have hA:St H ((Γ++[(pd,⟨dgW s rv n,true⟩)])++zKa rv cs):=by
  rw[List.append_assoc]; exact hO.left
 have hap:=zOp (o:=8) hA hv
 have hap2:=zOp (o:=9) hA hv
 have hap0:=zOp (o:=0) hA hv
 have i0:∀ {R:List (Nat × Blk)},(((Γ++DG pd s rv n cs)++Δ)++R)[Γ.length+0]?=some (pd,⟨dgW s rv n,true⟩):=zCa (zCa (zwa rfl))
 have i0':((Γ++DG pd s rv n cs)++Δ)[Γ.length+0]?=some (pd,⟨dgW s rv n,true⟩):=zCa (zwa rfl)
 have hlt:pd < H.next:=hO.lt _ (List.mem_of_getElem? i0')
 refine zaa zca ?_
 refine zaa zba ?_
 refine zua hO _ i0' (show _=w8C s from rfl) rfl (by omega) ?_
 refine zaa zca ?_
 refine zaa zba ?_
 refine zoa hO _ i0' (v:=rv) rfl ?_
 have hrd:RdB ((Γ++DG pd s rv n cs)++Δ) rv xs:=by
  have h1:RdB (Γ++DG pd s rv n cs) rv xs:=by
   rw[← List.append_assoc]; exact hv.rd.app'
  exact h1.app
 have hO2:St H (((Γ++DG pd s rv n cs)++Δ)++zKa zqa []):=by
  rw[show zKa zqa []=[] from rfl,List.append_nil]; exact hO
 refine zEc (xs:=[]) hO2 .nil hrd (by simpa using hl) ?_
 clear hO hO2 hA
 intro H2 rv2 cs2 hO hv2
 refine⟨hap0.1,?_⟩
 refine zaa zca ?_
 refine zaa zba ?_
 refine zoa hO _ i0 (v:=zsb .u64 n) rfl ?_
 refine⟨hap2.2,zan hlt,?_⟩
 have ho:=OwnB.o hv2
 obtain⟨a0,n0,c0,e0⟩:=zNp ho
 refine zaa (by rw[e0]; exact bDg s a0 n0 c0 n) ?_
 rw[← e0]
 refine zeb hO ?_
 clear hO
 intro pd2 H hO
 exact hk H pd2 rv2 cs2 (hO.perm (by
  rw[List.append_assoc]
  exact List.Perm.append_left _ List.perm_append_comm)) ho
def zoq(bs:List Int):List Value:=by8 bs++List.replicate (32 - bs.length) (zsb .u8 0)
theorem zNx{bs:List Int}(h:bs.length≤32):(zoq bs).length=32:=by simp[zoq]; omega
theorem zOx{bs:List Int}{x:Int}(h:bs.length < 32):(zoq bs).set bs.length (.int .u8 x)=zoq (bs++[x]):=by
 unfold zoq
 rw[List.set_append_right _ _ (by simp)]
 obtain⟨m,hm⟩:∃ m,32 - bs.length=m+1:=⟨31 - bs.length,by omega⟩
 rw[hm,List.length_append,show 32 - (bs.length+[x].length)=m by simp; omega,List.replicate_succ]
 simp[by8]
theorem zDh{s:W8}:(zrg s).length=32:=rfl
theorem zDI:∀ (l:List Nat) (m i:Nat),m < l.length→i < 4→(l.flatMap be4)[4 * m+i]?=(be4 (l.getD m 0))[i]?
 | [],_,_,h,_=>absurd h (Nat.not_lt_zero _)
 | a::l,0,i,_,hi=>by
  rw[List.flatMap_cons,Nat.mul_zero,Nat.zero_add,List.getElem?_append_left (show i < (be4 a).length from hi)]; rfl
 | a::l,m+1,i,h,hi=>by
  rw[List.flatMap_cons,List.getElem?_append_right (show (be4 a).length≤4 * (m+1)+i by show 4≤_; omega),show 4 * (m+1)+i - (be4 a).length=4 * m+i by show _ - 4=_; omega,zDI l m i (by simpa using h) hi]; rfl
theorem zEI{w i:Nat}(h:i < 4):(be4 w)[i]?=some (((w / 2 ^ (24 - 8 * i) % 256:Nat):Int)):=by
 rcases i with _|_|_|_|i
 ·rfl
 ·rfl
 ·rfl
 ·show some ((w % 256:Nat):Int)=some (((w / 2 ^ 0 % 256:Nat):Int))
  rw[Nat.pow_zero,Nat.div_one]
 ·omega
theorem hash_step{s:W8}{m i:Nat}(hm:m < 8)(hi:i < 4):(zrg s).take (4 * m+i)++[((s.l.getD m 0 / 2 ^ (24 - 8 * i) % 256:Nat):Int)]=(zrg s).take (4 * m+i+1):=by
 have h1:=zDI s.l m i (show m < 8 from hm) hi
 rw[zEI hi] at h1
 rw[List.take_add_one,show (zrg s)[4 * m+i]?=_ from h1]; rfl
theorem zgF{n i:Nat}(h:i < 8):(be8 n)[i]?=some (((n / 2 ^ (56 - 8 * i) % 256:Nat):Int)):=by
 unfold be8
 rw[List.getElem?_map,List.getElem?_range h]; rfl
theorem zhF{n:Nat}:∀ x ∈ be8 n,0≤x∧x≤255:=by
 intro x hx
 obtain⟨i,_,rfl⟩:=List.mem_map.1 hx
 have:=Nat.mod_lt (n / 2 ^ (56 - 8 * i)) (show 256 > 0 by decide)
 omega
theorem zYy{x:Int}(h:0≤x∧x≤255):∀ y ∈ [x],0≤y∧y≤255:=fun y hy=>by rw[List.mem_singleton.1 hy]; exact h
theorem zPu{n:Nat}:∀ y ∈ List.replicate n (0:Int),0≤y∧y≤255:=fun y hy=>by rw[(List.mem_replicate.1 hy).2]; decide
theorem zOH(x:Int)(H:Heap):(zla P 22 1).f [(0,.int .u8 x)] H=some (sl H.next 0 1 3,H.push [.int .u8 x]):=by kernel_rfl
theorem zHB{q c:Nat}{x:Int}(hc:c=2∨c=3):RdB (Γ++[(q,(⟨[.int .u8 x],true⟩:Blk))]) (sl q 0 1 c) [x]:=.inr ⟨q,0,c,rfl,hc,.inr ⟨Γ.length+0,_,zwa rfl,rfl⟩⟩
theorem zQu:zc P 49=List.replicate 32 (zsb .u8 0):=by kernel_rfl
end J
set_option maxRecDepth 100000
namespace J
open Go Go.Ab
variable{H:Heap}{Γ Γ0 Γ2 Δ G:List (Nat × Blk)}{K:VH}{v w x:Value}{xs ys zs bs b:List Int}{j p pd pz:Nat}{e:Int}{cs:List Value}
structure Dg (pd:Nat) (xs:List Int) (L:List (Nat × Blk)):Prop where
 intro' ::
 ex:∃ rv cs,L=DG pd (dSt xs) rv xs.length cs∧OwnO rv (zuw xs) cs
theorem zKf{L:List (Nat × Blk)}(hO:St H (Γ++L))(hd:Dg pd xs L)(hw:RdB Γ w ys)(hx:∀ x ∈ xs,0≤x∧x≤255)(hy:∀ x ∈ ys,0≤x∧x≤255)(hl:xs.length≤100000000)(hl2:ys.length≤100000000)
  (hk:∀ H' L',St H' (Γ++L')→Dg pd (xs++ys) L'→K (.tuple [].toArray) H'):wCall P zIa [ptr pd 0,w] H K:=by
 obtain⟨rv,cs,rfl,hv⟩:=hd.ex
 exact zWy hO hv hw hx hy hl hl2 fun H' rv' cs' h1 h2=>hk H' _ h1 ⟨rv',cs',rfl,h2⟩
theorem swp{L:List (Nat × Blk)}{y:Nat × Blk}(hO:St H ((Γ++L)++[y])):St H ((Γ++[y])++L):=hO.perm (by
 rw[List.append_assoc,List.append_assoc]
 exact List.Perm.append_left _ List.perm_append_comm)
theorem drp{L:List (Nat × Blk)}{y:Nat × Blk}(hO:St H ((Γ++[y])++L)):St H (Γ++L):=hO.sub (by
 rw[List.append_assoc]
 exact List.Sublist.append (List.Sublist.refl _) (List.sublist_append_right _ _))
theorem zFI{L:List (Nat × Blk)}{p2 n:Nat}{Qx:LX}{Qr:LN}(hO:St H (Γ++L))(hd:Dg pd (xs++[128]) L)(hx:∀ x ∈ xs,0≤x∧x≤255)(hl:xs.length≤90000000)
  (hk:∀ H' L',St H' (Γ++L')→Dg pd (xs++[128]++List.replicate (zZm xs.length) 0) L'→Qx 0 [ptr p2 0,ptr pd 0,zsb .u64 n] H') :
  zHb P true 67 zBd 28 [ptr p2 0,ptr pd 0,zsb .u64 n] H Qx Qr:=by
 refine zuh (fun k l' H'=>∃ (y:Nat) (L:List (Nat × Blk)),y≤zZm xs.length∧k=zZm xs.length - y∧l'=[ptr p2 0,ptr pd 0,zsb .u64 n]∧St H' (Γ++L)∧Dg pd (xs++[128]++List.replicate y 0) L) _ _ ?_ (zZm xs.length) _ _ ⟨0,L,by omega,rfl,rfl,hO,by rw[List.replicate_zero,List.append_nil]; exact hd⟩
 clear hO hd
 rintro k l' H ⟨y,L,hy,rfl,rfl,hO,hd⟩
 unfold zuf
 try simp only[zia,zja]
 obtain⟨rv,cs,rfl,hv⟩:=hd.ex
 have hlen:(xs++[128]++List.replicate y (0:Int)).length=xs.length+1+y:=by simp; omega
 have hpz:zZm xs.length < 64:=Nat.mod_lt _ (by decide)
 refine zaa zca ?_
 refine zaa zba ?_
 refine zoa hO (Γ.length+0) (zwa rfl) (v:=rv) rfl ?_
 refine zva hv.rd.lenSl ?_
 refine zaa zQa ?_
 rw[zMp,hlen]
 refine zma (fun h=>?_) (fun h=>?_)
 ·have hlt:y < zZm xs.length:=by
   unfold zZm at hy ⊢
   omega
  refine zDa hO (zOH 0 _) ?_
  clear hO
  intro q H hO
  have hO2:=swp hO
  refine zKf hO2 hd (zHB (.inr rfl)) (zsd (zsd hx (zYy (by decide))) zPu) (zYy (by decide)) (by omega) (by simp) ?_
  clear hO hO2 hd
  intro H L hO hd
  rw[List.append_assoc _ (List.replicate y 0),← List.replicate_succ'] at hd
  repeat (first|refine oi ?_|refine ow ?_|refine wy ?_|refine wn ?_|refine wt ?_|refine wf' ?_|refine cy ?_|refine cn ?_)
  exact⟨zZm xs.length - (y+1),by omega,y+1,L,by omega,rfl,(by first|rfl|trivial),drp hO,hd⟩
 ·have hy:y=zZm xs.length:=by
   unfold zZm at hy ⊢
   omega
  subst hy
  exact hk H _ hO hd
theorem zGI{L:List (Nat × Blk)}{p2 n:Nat}{Qx:LX}{Qr:LN}(hO:St H (Γ++L))(hd:Dg pd zs L)(hx:∀ x ∈ zs,0≤x∧x≤255)(hl:zs.length≤95000000)(hn:n < 18446744073709551616)
  (hk:∀ H' L',St H' (Γ++L')→Dg pd (zs++be8 n) L'→Qx 2 [ptr p2 0,ptr pd 0] H') :
  zHb P true 67 zCd 12 [ptr p2 0,ptr pd 0,zsb .u64 n,int 0] H Qx Qr:=by
 refine zvh (fun k l' H'=>∃ (y:Nat) (L:List (Nat × Blk)),y≤8∧k=8 - y∧l'=[ptr p2 0,ptr pd 0,zsb .u64 n,int y]∧St H' (Γ++L)∧Dg pd (zs++(be8 n).take y) L) _ _ ?_ 8 _ _ ⟨0,L,by omega,rfl,rfl,hO,by rw[List.take_zero,List.append_nil]; exact hd⟩
 clear hO hd
 rintro k l' H ⟨y,L,hy,rfl,rfl,hO,hd⟩
 unfold zvf
 try simp only[zia,zja]
 refine zaa zMa ?_
 refine zma (fun h=>?_) (fun h=>?_)
 ·have hy8:y < 8:=by omega
  refine zaa (v:=int ((8 * y:Nat):Int)) (by rw[zBg (by omega) (by omega)]; congr 2 <;> omega) ?_
  refine zaa (v:=int ((56 - 8 * y:Nat):Int)) (by rw[zBb (by omega) (by omega)]; congr 2 <;> omega) ?_
  refine zaa (zEf (k:=.u64) rfl (show 56 - 8 * y≤64 by omega)) ?_
  refine zva (cvU (k':=.u8) rfl) ?_
  refine zDa hO (zOH _ _) ?_
  clear hO
  intro q H hO
  have hO2:=swp hO
  have hb:(0:Int)≤((n / 2 ^ (56 - 8 * y) % szU .u8:Nat):Int)∧((n / 2 ^ (56 - 8 * y) % szU .u8:Nat):Int)≤255:=by
   have:=Nat.mod_lt (n / 2 ^ (56 - 8 * y)) (show szU .u8 > 0 by decide)
   have e:szU .u8=256:=rfl
   rw[e] at this ⊢
   omega
  refine zKf hO2 hd (zHB (.inr rfl)) (zsd hx fun x hx=>zhF x (List.mem_of_mem_take hx)) (zYy hb) (by rw[List.length_append,List.length_take]; omega) (by simp) ?_
  clear hO hO2 hd
  intro H L hO hd
  have e:(be8 n).take y++[((n / 2 ^ (56 - 8 * y) % szU .u8:Nat):Int)]=(be8 n).take (y+1):=by
   rw[List.take_add_one,zgF hy8]; rfl
  rw[List.append_assoc,e] at hd
  repeat (first|refine oi ?_|refine ow ?_|refine wy ?_|refine wn ?_|refine wt ?_|refine wf' ?_|refine cy ?_|refine cn ?_)
  exact⟨8 - (y+1),by omega,y+1,L,by omega,rfl,rfl,drp hO,hd⟩
 ·have hy:y=8:=by omega
  subst hy
  rw[List.take_of_length_le (by rw[zYs]; omega)] at hd
  exact hk H L hO hd
theorem zHI{s:W8}{p2 p6 m:Nat}{v4 v5:Value}{Qx:LX}{Qr:LN}(hm:m < 8)(hO:St H (Γ++[(p6,⟨zoq ((zrg s).take (4 * m)),true⟩)]))
  (hk:∀ H',St H' (Γ++[(p6,⟨zoq ((zrg s).take (4 * (m+1))),true⟩)])→Qx 6 [ptr p2 0,ptr p6 0,v4,v5] H') :
  zHb P true 67 zEd 105553116266564 [ptr p2 0,ptr p6 0,int m,u32 (s.l.getD m 0),v4,v5,int 0] H Qx Qr:=by
 refine zxh (fun k l' H'=>∃ (y:Nat),y≤4∧k=4 - y∧l'=[ptr p2 0,ptr p6 0,int m,u32 (s.l.getD m 0),v4,v5,int y]∧St H' (Γ++[(p6,⟨zoq ((zrg s).take (4 * m+y)),true⟩)])) _ _ ?_ 4 _ _ ⟨0,by omega,rfl,rfl,hO⟩
 clear hO
 rintro k l' H ⟨y,hy,rfl,rfl,hO⟩
 unfold zxf
 try simp only[zia,zja]
 refine zaa zMa ?_
 refine zma (fun h=>?_) (fun h=>?_)
 ·have hy4:y < 4:=by omega
  have hlen:((zrg s).take (4 * m+y)).length=4 * m+y:=by rw[List.length_take,zDh]; omega
  refine zaa (v:=int ((4 * m:Nat):Int)) (by rw[zBg (by omega) (by omega)]; congr 2 <;> omega) ?_
  refine zaa (v:=int ((4 * m+y:Nat):Int)) (by rw[zLc (by omega) (by omega)]; congr 2 <;> omega) ?_
  refine zaa (v:=int ((8 * y:Nat):Int)) (by rw[zBg (by omega) (by omega)]; congr 2 <;> omega) ?_
  refine zaa (v:=int ((24 - 8 * y:Nat):Int)) (by rw[zBb (by omega) (by omega)]; congr 2 <;> omega) ?_
  refine zaa (zEf (k:=.u32) rfl (show 24 - 8 * y≤32 by omega)) ?_
  refine zva (cvU (k':=.u8) rfl) ?_
  refine zaa (zta (by omega) (by omega)) ?_
  rw[Int.toNat_natCast]
  refine zNa hO (Γ.length+0) (zwa rfl) rfl (show 0+(4 * m+y) * 1 < (zoq ((zrg s).take (4 * m+y))).length by rw[zNx (by omega)]; omega) (show _=zoq ((zrg s).take (4 * m+y+1)) from ?_) ?_
  ·rw[← hash_step hm hy4,← zOx (by omega),hlen,show 0+(4 * m+y) * 1=4 * m+y by omega]
   rfl
  clear hO
  intro H hO
  replace hO:=hO.set_r
  repeat (first|refine oi ?_|refine ow ?_|refine wy ?_|refine wn ?_|refine wt ?_|refine wf' ?_|refine cy ?_|refine cn ?_)
  exact⟨4 - (y+1),by omega,y+1,by omega,rfl,rfl,hO⟩
 ·have hy:y=4:=by omega
  subst hy
  exact hk H hO
theorem zGG(s:W8):zoi 8 1 (zfl P 162).f (agg (w8C s)) (int 0)=some (u32 s.a):=by kernel_rfl
theorem zHG(s:W8):zoi 8 1 (zfl P 162).f (agg (w8C s)) (int 1)=some (u32 s.b):=by kernel_rfl
theorem zIG(s:W8):zoi 8 1 (zfl P 162).f (agg (w8C s)) (int 2)=some (u32 s.c):=by kernel_rfl
theorem zJG(s:W8):zoi 8 1 (zfl P 162).f (agg (w8C s)) (int 3)=some (u32 s.d):=by kernel_rfl
theorem zKG(s:W8):zoi 8 1 (zfl P 162).f (agg (w8C s)) (int 4)=some (u32 s.e):=by kernel_rfl
theorem zLG(s:W8):zoi 8 1 (zfl P 162).f (agg (w8C s)) (int 5)=some (u32 s.f):=by kernel_rfl
theorem zMG(s:W8):zoi 8 1 (zfl P 162).f (agg (w8C s)) (int 6)=some (u32 s.g):=by kernel_rfl
theorem zNG(s:W8):zoi 8 1 (zfl P 162).f (agg (w8C s)) (int 7)=some (u32 s.h):=by kernel_rfl
theorem zgK{s:W8}{m:Nat}(h:m < 8):zoi 8 1 (zfl P 162).f (agg (w8C s)) (int m)=some (u32 (s.l.getD m 0)):=by
 rcases m with _|_|_|_|_|_|_|_|m
 ·exact zGG s
 ·exact zHG s
 ·exact zIG s
 ·exact zJG s
 ·exact zKG s
 ·exact zLG s
 ·exact zMG s
 ·exact zNG s
 ·omega
theorem zII{s:W8}{p2 p6:Nat}{Qx:LX}{Qr:LN}(hO:St H (Γ++[(p6,⟨zoq [],true⟩)]))
  (hk:∀ H',St H' (Γ++[(p6,⟨by8 (zrg s),true⟩)])→Qx 4 [ptr p2 0,ptr p6 0] H') :
  zHb P true 67 zDd 68 [ptr p2 0,ptr p6 0,agg (w8C s),int 0] H Qx Qr:=by
 refine zwh (fun k l' H'=>∃ (y:Nat),y≤8∧k=8 - y∧l'=[ptr p2 0,ptr p6 0,agg (w8C s),int y]∧St H' (Γ++[(p6,⟨zoq ((zrg s).take (4 * y)),true⟩)])) _ _ ?_ 8 _ _ ⟨0,by omega,rfl,rfl,hO⟩
 clear hO
 rintro k l' H ⟨y,hy,rfl,rfl,hO⟩
 unfold zwf
 try simp only[zia,zja]
 refine zaa zMa ?_
 refine zma (fun h=>?_) (fun h=>?_)
 ·have hy8:y < 8:=by omega
  refine zaa (zgK hy8) ?_
  refine zHI hy8 hO ?_
  clear hO
  intro H hO
  refine zZa rfl ?_
  try simp only[zia,zja]
  repeat (first|refine oi ?_|refine ow ?_|refine wy ?_|refine wn ?_|refine wt ?_|refine wf' ?_|refine cy ?_|refine cn ?_)
  exact⟨8 - (y+1),by omega,y+1,by omega,rfl,rfl,hO⟩
 ·have hy:y=8:=by omega
  subst hy
  have e:zoq ((zrg s).take (4 * 8))=by8 (zrg s):=by
   rw[List.take_of_length_le (by rw[zDh]; omega)]
   unfold zoq
   rw[zDh,Nat.sub_self,List.replicate_zero,List.append_nil]
  rw[e] at hO
  exact hk H hO
end J
set_option maxRecDepth 100000
namespace J
open Go Go.Ab
variable{H:Heap}{Γ Γ0 Γ2 Δ G:List (Nat × Blk)}{K:VH}{v w x:Value}{xs ys zs bs b:List Int}{j p pd pz:Nat}{e:Int}{cs:List Value}
set_option maxHeartbeats 2000000 in
theorem zdm{L:List (Nat × Blk)}(hO:St H (Γ++L))(hd:Dg pd xs L)(hx:∀ x ∈ xs,0≤x∧x≤255)(hl:xs.length≤80000000)
  (hk:∀ H',St H' (Γ++L)→K (agg (by8 (sha xs))) H'):wCall P zdb [ptr pd 0] H K:=by
 obtain⟨rv,cs,rfl,hv⟩:=hd.ex
 apply zbk; unfold zyh
 rw[zQu]
 refine zeb hO ?_
 clear hO
 intro p2 H hO
 have hrl:=zMp (xs:=xs)
 refine zXy hO hv (by omega) ?_
 clear hO
 intro H pd2 rv2 cs2 hO hv2
 have hd2:Dg pd2 xs (DG pd2 (dSt xs) rv2 xs.length cs2):=⟨rv2,cs2,rfl,hv2⟩
 refine zaa zca ?_
 refine zaa zba ?_
 refine zoa hO (_+0) (zwa rfl) (v:=zsb .u64 xs.length) rfl ?_
 refine zaa (v:=zsb .u64 (8 * xs.length)) (by
  rw[show (Value.int .u64 8)=zsb .u64 8 from rfl,zwl (k:=.u64) rfl,Nat.mod_eq_of_lt (show xs.length * 8 < szU .u64 from (show _ < 18446744073709551616 by omega)),Nat.mul_comm]) ?_
 refine zDa hO (zOH 128 _) ?_
 clear hO
 intro q H hO
 have hO2:=swp hO
 refine zKf hO2 hd2 (zHB (.inr rfl)) hx (zYy (by decide)) (by omega) (by simp) ?_
 clear hO hO2 hd2
 intro H L hO hd2
 refine zFI (drp hO) hd2 hx (by omega) ?_
 clear hO hd2
 intro H L hO hd2
 refine zZa rfl ?_
 try simp only[zia,zja]
 have hpz:zZm xs.length < 64:=Nat.mod_lt _ (by decide)
 have hzb:∀ x ∈ xs++[128]++List.replicate (zZm xs.length) 0,0≤x∧x≤255:=zsd (zsd hx (zYy (by decide))) zPu
 refine zGI hO hd2 hzb (by simp; omega) (by omega) ?_
 clear hO hd2
 intro H L hO hd2
 refine zZa rfl ?_
 try simp only[zia,zja]
 replace hd2:Dg pd2 (zCB xs) L:=hd2
 obtain⟨rv3,cs3,rfl,hv3⟩:=hd2.ex
 refine zeb hO ?_
 clear hO
 intro p6 H hO
 refine zaa zca ?_
 refine zaa zba ?_
 refine zua hO (_+0) (zCa (zwa rfl)) (show _=w8C (dSt (zCB xs)) from rfl) rfl (by omega) ?_
 refine zII hO ?_
 clear hO
 intro H hO
 refine zZa rfl ?_
 try simp only[zia,zja]
 refine zua hO (_+0) (zwa rfl) (show _=by8 (sha xs) from rfl) rfl (by omega) ?_
 have i2:∀ {R R2:List (Nat × Blk)},((((Γ++DG pd (dSt xs) rv xs.length cs)++[(p2,(⟨List.replicate 32 (zsb .u8 0),true⟩:Blk))])++R)++R2)[(Γ++DG pd (dSt xs) rv xs.length cs).length+0]?=some (p2,⟨List.replicate 32 (zsb .u8 0),true⟩):=zCa (zCa (zwa rfl))
 refine zed hO _ i2 rfl (show 0+32≤32 by omega) (show (by8 (sha xs)).all oneCell=true by simp[oneCell]) ?_
 clear hO
 intro H hO
 rw[List.set_append_left _ _ (by simp),List.set_append_left _ _ (by simp),Go.Ab.set_r] at hO
 refine zua hO ((Γ++DG pd (dSt xs) rv xs.length cs).length+0) (zCa (zCa (zwa rfl))) (show _=by8 (sha xs) from rfl) rfl (by omega) ?_
 exact hk H hO.left.left.left
theorem znL(a:Option Addr)(n c:Nat)(H:Heap):(zla P 171 1).f [(0,.slice a n c)] H=some (sl H.next 0 1 3,H.push [.slice a n c]):=by kernel_rfl
theorem zRu{q:Nat}(hO:St H Γ)(hq:Γ[j]?=some (q,(⟨[v],true⟩:Blk)))(hv:RdB Γ v xs)(hx:∀ x ∈ xs,0≤x∧x≤255)(hl:xs.length≤80000000)
  (hk:∀ H',St H' Γ→K (agg (by8 (sha xs))) H'):wCall P znd [sl q 0 1 3] H K:=by
 apply zMl; unfold zUm
 rw[zQu]
 refine zeb hO ?_
 clear hO
 intro p2 H hO
 refine zyo hO ?_
 clear hO
 intro H pd hO
 have hd:Dg pd [] (DG pd (dSt []) zqa ([]:List Int).length []):=⟨zqa,[],rfl,.inl ⟨rfl,rfl,rfl⟩⟩
 refine zva zCf ?_
 generalize (DG pd (dSt []) zqa ([]:List Int).length [])=L at *
 refine zBh (fun k l' H'=>∃ (y:Nat) (L:List (Nat × Blk)),y≤1∧k=1 - y∧l'=[ptr p2 0,ptr pd 0,sl q 0 1 3,int 1,int y]∧St H' ((Γ++[(p2,⟨List.replicate 32 (zsb .u8 0),true⟩)])++L)∧Dg pd (if y=0 then [] else xs) L) _ _ ?_ 1 _ _ ⟨0,L,by omega,rfl,rfl,hO,hd⟩
 clear hO hd
 rintro k l' H ⟨y,L,hy,rfl,rfl,hO,hd⟩
 unfold zci
 try simp only[zia,zja]
 refine zaa zMa ?_
 refine zma (fun h=>?_) (fun h=>?_)
 ·have hy0:y=0:=by omega
  subst hy0
  refine zaa (zqb (by omega) (by omega)) ?_
  refine zoa hO j (zCa (zCa hq)) (v:=v) rfl ?_
  refine zKf hO hd hv.app (by intro x hx; cases hx) hx (by simp) (by omega) ?_
  clear hO hd
  intro H L hO hd
  repeat (first|refine oi ?_|refine ow ?_|refine wy ?_|refine wn ?_|refine wt ?_|refine wf' ?_|refine cy ?_|refine cn ?_)
  exact⟨0,by omega,1,L,by omega,rfl,rfl,hO,hd⟩
 ·have hy0:y=1:=by omega
  subst hy0
  refine zZa rfl ?_
  try simp only[zia,zja]
  refine zdm hO hd hx hl ?_
  clear hO
  intro H hO
  refine zed hO (Γ.length+0) (zCa (zwa rfl)) rfl (show 0+32≤32 by omega) (show (by8 (sha xs)).all oneCell=true by simp[oneCell]) ?_
  clear hO
  intro H hO
  rw[List.set_append_left _ _ (by simp),Go.Ab.set_r] at hO
  refine zua hO (Γ.length+0) (zCa (zwa rfl)) (show _=by8 (sha xs) from rfl) rfl (by omega) ?_
  exact hk H hO.left.left
end J
set_option maxRecDepth 100000
namespace J
open Go Go.Ab
variable{H:Heap}{Γ Γ0 Γ2 Δ G:List (Nat × Blk)}{K:VH}{v w x:Value}{xs ys zs bs b:List Int}{j p pd pz:Nat}{e:Int}{cs:List Value}{L:Mloc}{m:Mp}{part pos:Int}
def Mp.upto(m:Mp)(part:Int)(n:Nat):List Int:=(List.range n).flatMap fun (i:Nat)=>(m.read part i).1
def Mp.all(m:Mp)(part:Int):List Int:=m.upto part (m.size part)
end J
