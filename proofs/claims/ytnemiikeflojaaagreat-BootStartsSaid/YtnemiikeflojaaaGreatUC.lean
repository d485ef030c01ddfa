/- texts of the proof, one behind the other -/
import Derived.Test.YtnemiikeflojaaaGreatUB
set_option linter.unusedSimpArgs false
set_option linter.unusedSectionVars false
set_option linter.unusedVariables false
set_option maxRecDepth 100000
namespace J
open Go Go.Ab
variable{H:Heap}{Γ:List (Nat × Blk)}{K:VH}{v w x:Value}{xs ys:List Int}{j p:Nat}{e:Int}
abbrev agg(l:List Value):Value:=.agg l.toArray
theorem zia[lp:LpC]{p n:Nat}{cs:List Value}{w:Bool}{K:VH}(h:St H Γ)(i:Nat)(hi:Γ[i]?=some (p,⟨cs,w⟩))(hn:cs.length=n)(hp:0 < n)(hk:K (agg cs) H):opW (zna n (ptr p 0) H) K:=by
 refine zBa h i hi (show _=cs from ?_) hn hp hk
 rw[List.drop_zero]
 exact List.take_of_length_le (Nat.le_of_eq hn)
theorem zoa[lp:LpC]{p n:Nat}{cs new:List Value}{K:VH}(h:St H Γ)(i:Nat)(hi:Γ[i]?=some (p,⟨cs,true⟩))(hn:cs.length=n)(hl:new.length=n)(h1:new.all oneCell=true)
  (hk:∀ H',St H' (Γ.set i (p,⟨new,true⟩))→K undef H'):opW (zka n (ptr p 0) (agg new) H) K:=by
 refine zgc h i hi hl (by omega) h1 fun H' hO=>hk H' ?_
 have e:cs.take 0++(zFa (agg new)++cs.drop (0+n))=new:=by
  rw[List.drop_of_length_le (by omega)]
  show []++(new++[])=new
  simp
 rw[e] at hO; exact hO
theorem zRh{a b:Value}:zNb 0 (.tuple [a,b].toArray)=some a:=rfl
theorem zSh{a b:Value}:zNb 1 (.tuple [a,b].toArray)=some b:=rfl
theorem St.mid[lp:LpC]{L R:List (Nat × Blk)}(h:St H ((Γ++L)++R)):St H (Γ++R):=h.sub (List.Sublist.append (List.sublist_append_left Γ L) (List.Sublist.refl R))
noncomputable def zPK(r:Nat):Nat:=Nat.xor (r / 2) (Nat.land 3988292384 ((4294967296 - Nat.land r 1) % 4294967296))
noncomputable def zsG(i r:Nat):Nat:=Nat.rec (motive:=fun _=>Nat) r (fun _ x=>zPK x) i
theorem zQK{r:Nat}(h:r < 4294967296):zPK r < 4294967296:=
 Nat.xor_lt_two_pow (n:=32) (by omega) (Nat.and_lt_two_pow (n:=32) _ (Nat.mod_lt _ (by omega)))
theorem zwx{r:Nat}(h:r < 4294967296):∀ i,zsG i r < 4294967296
 | 0=>h
 | i+1=>zQK (zwx h i)
theorem zxx{r:Nat}(hr:r < 4294967296)(hk:K (zib .u32 (zsG 8 r)) H):wCall P zdl [zib .u32 r] H K:=by
 apply zHB; unfold zpD
 refine zCt (fun k l' H'=>∃ y:Nat,y≤8∧k=8 - y∧l'=[zib .u32 (zsG y r),.int .u32 0,int y]∧H'=H) _ _ ?_ 8 _ _ ⟨0,by omega,rfl,rfl,rfl⟩
 rintro k l' H' ⟨y,hy,rfl,rfl,rfl⟩
 unfold zBt
 try simp only[zla,zma]
 have hb:=zwx hr y
 repeat refine oi ?_
 refine zja (fun h=>?_) (fun h=>?_)
 ·have h1:zsG y r &&& 1 < 4294967296:=Nat.and_lt_two_pow (n:=32) _ (by omega)
  refine zaa (zax (n:=1) rfl (by decide)) ?_
  refine zaa (zbD (b:=1) rfl hb (by decide)) ?_
  refine zaa (zLK rfl h1) ?_
  refine zaa (zbD (a:=3988292384) rfl (by decide) (Nat.mod_lt _ (by decide))) ?_
  refine zaa (zcD rfl (show zsG y r / 2 < 4294967296 by omega) (Nat.and_lt_two_pow (n:=32) _ (Nat.mod_lt _ (by decide)))) ?_
  repeat refine oi ?_
  exact⟨_,by omega,y+1,by omega,rfl,rfl,trivial⟩
 ·have e:y=8:=by omega
  subst e
  repeat refine cy ?_
  exact hk
abbrev MadeB(Γ:List (Nat × Blk))(K:VH)(xs:List Int):Prop:=∀ (H':Heap) (v':Value) (cs':List Value),St H' (Γ++zGa v' cs')→OwnB v' xs cs'→K v' H'
theorem MadeB.none(h:MadeB Γ K [])(hO:St H Γ):K zya H:=h H zya [] (by show St H (Γ++[]); rw[List.append_nil]; exact hO) OwnB.nil
theorem u46:P.underlying 32=some (.slice 5):=by kernel_rfl
theorem zkm(H:Heap):(zpa P 32 0).f [] H=some (sl H.next 0 0 3,H.push []):=by kernel_rfl
theorem zti(k:IntKind)(n:Int)(H:Heap):(zpa P 32 1).f [(0,.int k n)] H=some (sl H.next 0 1 3,H.push [.int k n]):=by kernel_rfl
theorem zqD(k k':IntKind)(m n:Int)(H:Heap):(zpa P 32 2).f [(0,.int k m),(1,.int k' n)] H=some (sl H.next 0 2 3,H.push [.int k m,.int k' n]):=by kernel_rfl
theorem zNz(a:Option Addr)(n c:Nat)(H:Heap):(zpa P 104 1).f [(0,.slice a n c)] H=some (sl H.next 0 1 3,H.push [.slice a n c]):=by kernel_rfl
theorem zqM(a a':Option Addr)(n n' c c':Nat)(H:Heap):(zpa P 104 2).f [(0,.slice a n c),(1,.slice a' n' c')] H=some (sl H.next 0 2 3,H.push [.slice a n c,.slice a' n' c']):=by kernel_rfl
theorem znp(hO:St H Γ)(hv:RdB Γ v xs)(hl:xs.length≤100000000)(hk:MadeB Γ K xs):wCall P zvb [v] H K:=by
 apply zOh; unfold zjf
 have hv':=hv
 rcases hv with⟨rfl,rfl⟩|⟨p,o,c,rfl,_⟩
 ·refine zaa (zlG u46) ?_
  refine zdg rfl ?_
  exact hk.none hO
 ·refine zaa (zlG u46) ?_
  refine zFe rfl ?_
  refine zEa hO (zkm _) ?_
  intro q H hO
  exact zGe (v:=sl q 0 0 3) (cs:=[]) (xs:=[]) hO (.inr ⟨q,.inr ⟨rfl,rfl⟩,rfl,Nat.le_refl _,rfl⟩) hv' (by simp; omega) hk
theorem zDt{n:Nat}(hn:n≤8)(hk:K (int n) H):wCall P zzg [int n] H K:=by
 apply zNu; unfold znt
 repeat refine ow ?_
 rw[show max (0:Int) (min (n:Int) 8)=n by omega]
 exact hk
theorem zrM(H:Heap):(zjd P .cap [32]).f [zya] H=some (int 0,H):=by kernel_rfl
theorem zRK(x:Value)(H:Heap):(zjd P .append [32,3]).f [zya,x] H=znf 1 1 [.int .u8 0] zya x H:=by kernel_rfl
theorem zMN{m:Nat}(h0:0 < m)(h1:m≤1000000000)(H:Heap):(zjd P .append [32,3]).f [zya,int m] H=some (sl H.next 0 m 2,H.push (repl m [.int .u8 0])):=by
 rw[zRK]
 unfold znf
 simp only
 rw[zhc,decide_eq_true (show (0:Int)≤m by omega)]
 simp only[Nat.beq_refl,Bool.and_self,Int.toNat_natCast]
 have hb:Nat.beq m 0=false:=by
  cases hb:Nat.beq m 0 with
  | false=>rfl
  | true=>have:=Nat.eq_of_beq_eq_true hb; omega
 rw[hb,zvm (by omega) (by omega)]
 rfl
theorem ztG{n:Nat}(hO:St H Γ)(hn:n≤1000000000)(hk:MadeB Γ K []):wCall P zRc [zya,int n] H K:=by
 apply zri; unfold zYf
 refine zwa (fun l' H'=>l'=[zya,int n]∧St H' Γ) ?_ ?_
 ·repeat (first|refine oi ?_|refine wn ?_)
  exact⟨rfl,hO⟩
 clear hO
 rintro l' H ⟨rfl,hO⟩
 try simp only[zla,zma]
 refine zDa (zrM _) ?_
 repeat (first|refine oi ?_|refine ow ?_)
 refine zja (fun h=>?_) (fun h=>?_)
 ·refine zDa (zrM _) ?_
  refine zaa (show zLa 1 zya none (some (int 0)) none=some zya from rfl) ?_
  rw[show (n:Int) - (0 - ((0:Nat):Int))=n by omega] at h ⊢
  refine zEa hO (zMN (by omega) hn _) ?_
  intro p H hO
  repeat refine ow ?_
  refine zaa (show zLa 1 (sl p 0 n 2) none (some (int ((0:Nat):Int))) none=some (sl p 0 0 2) from rfl) ?_
  exact hk _ _ _ hO (.inr ⟨p,.inl rfl,rfl,Nat.zero_le _,by rw[zVk]; simp[zMd,zDe]⟩)
 ·exact hk.none hO
def RdL(Γ:List (Nat × Blk))(v:Value)(vs:List Value):Prop:=∃ (p c j:Nat) (w:Bool),v=sl p 0 vs.length c∧Γ[j]?=some (p,(⟨vs,w⟩:Blk))
theorem zOz{xss:List (List Int)}{y:Nat}(h:y < xss.length):(xss.take (y+1)).flatten=(xss.take y).flatten++xss[y]:=by
 rw[List.take_succ_eq_append_getElem h,List.flatten_append]; simp
theorem zIB{xss:List (List Int)}(y:Nat):(xss.take y).flatten.length≤xss.flatten.length:=by
 conv=>rhs; rw[← List.take_append_drop y xss]
 rw[List.flatten_append,List.length_append]; omega
theorem zEt{vs:List Value}{xss:List (List Int)}(hO:St H Γ)(hv:RdL Γ v vs)(hlen:xss.length=vs.length)(hall:∀ i (h:i < vs.length) (h':i < xss.length),RdB Γ vs[i] xss[i])(hl:xss.flatten.length≤100000000)(hm:vs.length≤1000000)(hk:MadeB Γ K xss.flatten):wCall P zeb [v] H K:=by
 apply zjh; unfold zaf
 obtain⟨p,c,j,w,rfl,hj⟩:=hv
 repeat refine ow ?_
 refine zWf (fun k l' H'=>∃ y:Nat,y≤vs.length∧k=vs.length - y∧l'=[sl p 0 vs.length c,zya,int ((xss.take y).flatten.length:Nat),sl p 0 vs.length c,int vs.length,int y]∧St H' Γ) _ _ ?_ vs.length _ _ ⟨0,by omega,by omega,rfl,hO⟩
 clear hO
 rintro k l' H' ⟨y,hy,rfl,rfl,hO⟩
 unfold zKd
 try simp only[zla,zma]
 have hle:=zIB (xss:=xss) y
 repeat refine oi ?_
 refine zja (fun h=>?_) (fun h=>?_)
 ·have hyl:y < vs.length:=by omega
  have hyx:y < xss.length:=by omega
  have hr:=hall y hyl hyx
  have hs:=zOz hyx
  have hle2:=zIB (xss:=xss) (y+1)
  rw[hs,List.length_append] at hle2
  repeat refine oi ?_
  refine zha hO j hj (v:=vs[y]) (by simp[hyl]) ?_
  refine zDa hr.lenSl ?_
  repeat (first|refine oi ?_|refine wn ?_)
  refine⟨_,by omega,y+1,by omega,rfl,?_,hO⟩
  rw[hs,List.length_append]; simp
 ·have e:y=vs.length:=by omega
  subst e
  rw[List.take_of_length_le (by omega)]
  repeat refine cy ?_
  refine ztG hO (by omega) ?_
  intro H v' cs' hO' hv'
  repeat refine ow ?_
  refine zXf (fun k l' H'=>∃ (y:Nat) (v':Value) (cs':List Value),y≤vs.length∧k=vs.length - y∧l'=[zya,v',sl p 0 vs.length c,int vs.length,int y]∧St H' (Γ++zGa v' cs')∧OwnB v' (xss.take y).flatten cs') _ _ ?_ vs.length _ _ ⟨0,v',cs',by omega,by omega,rfl,hO',hv'⟩
  clear hO' hv' hO
  rintro k l' H' ⟨y,v',cs',hy,rfl,rfl,hO,hv⟩
  unfold zLd
  try simp only[zla,zma]
  repeat refine oi ?_
  refine zja (fun h=>?_) (fun h=>?_)
  ·have hyl:y < vs.length:=by omega
   have hyx:y < xss.length:=by omega
   have hr:=hall y hyl hyx
   have hs:=zOz hyx
   have hle2:=zIB (xss:=xss) (y+1)
   rw[hs,List.length_append] at hle2
   repeat refine oi ?_
   refine zha hO j (zza hj) (v:=vs[y]) (by simp[hyl]) ?_
   refine zGe hO hv hr (by omega) ?_
   intro H v'' cs'' hO hv
   repeat refine oi ?_
   refine⟨_,by omega,y+1,v'',cs'',by omega,rfl,rfl,hO,?_⟩
   rw[hs]; exact hv
  ·have e:y=vs.length:=by omega
   subst e
   rw[List.take_of_length_le (by omega)] at hv
   repeat refine cy ?_
   exact hk _ _ _ hO hv
theorem zyx(hO:St H Γ)(hv:RdB Γ v xs)(hw:RdL Γ w [x])(hx:RdB Γ x ys)(hl:xs.length+ys.length≤10000000)(hk:MadeB Γ K (xs++ys)):wCall P zzf [v,w] H K:=by
 apply zEB; unfold zmD
 refine zEt (xss:=[ys]) hO hw rfl (fun i h h'=>by
  have:i=0:=by simp at h; omega
  subst this; exact hx) (by simp; omega) (by simp) ?_
 intro H v1 c1 hO h1
 have h1:OwnB v1 ys c1:=by simpa using h1
 obtain⟨a,n,c,e1⟩:=hv.shape
 obtain⟨a',n',c',e2⟩:=h1.rd.shape
 refine zEa hO (show (zpa P 104 2).f [(0,v),(1,v1)] H=some (sl H.next 0 2 3,H.push [v,v1]) by rw[e1,e2]; exact zqM _ _ _ _ _ _ _) ?_
 intro q H hO
 refine zEt (xss:=[xs,ys]) (vs:=[v,v1]) hO ⟨q,3,(Γ++zGa v1 c1).length,true,rfl,by simp⟩ rfl (fun i h h'=>?_) (by simp; omega) (by simp) ?_
 ·match i,h with
  | 0,_=>exact hv.app.app
  | 1,_=>exact h1.rd.app'.app
 ·intro H' v' cs' hO' hv'
  have hv':OwnB v' (xs++ys) cs':=by simpa using hv'
  exact hk _ _ _ (St.mid (St.mid (L:=[(q,⟨[v,v1],true⟩)]) hO')) hv'
def leN(y n:Nat):List Int:=(List.range y).map fun i=>((n / 256 ^ i % 256:Nat):Int)
theorem zhb(y n:Nat):(leN y n).length=y:=by simp[leN]
theorem zrD(y n:Nat):leN (y+1) n=leN y n++[((n / 256 ^ y % 256:Nat):Int)]:=by simp[leN,List.range_succ]
theorem zSK(n y:Nat):n / 256 ^ y / 2 ^ 8=n / 256 ^ (y+1):=by show n / 256 ^ y / 256=_; rw[Nat.div_div_eq_div_mul,← Nat.pow_succ]
theorem zBb{n size:Nat}(hO:St H Γ)(hv:RdB Γ v xs)(hl:xs.length≤10000000)(hn:n < 2 ^ 64)(hs:size≤8)(hk:MadeB Γ K (xs++leN size n)):wCall P zUa [v,zib .u64 n,int size] H K:=by
 apply ztx; unfold zYv
 refine znp hO hv (by omega) ?_
 intro H v' cs' hO hv'
 refine zDt hs ?_
 refine zjp (fun k l' H'=>∃ (y:Nat) (v':Value) (cs':List Value),y≤size∧k=size - y∧l'=[zib .u64 (n / 256 ^ y),zya,v',int size,int y]∧St H' (Γ++zGa v' cs')∧OwnB v' (xs++leN y n) cs') _ _ ?_ size _ _ ⟨0,v',cs',by omega,by omega,by simp,hO,by simpa [leN] using hv'⟩
 clear hO hv'
 rintro k l' H' ⟨y,v',cs',hy,rfl,rfl,hO,hv'⟩
 unfold zco
 try simp only[zla,zma]
 repeat refine oi ?_
 refine zja (fun h=>?_) (fun h=>?_)
 ·have hyl:y < size:=by omega
  refine zDa (cvU rfl) ?_
  refine zEa hO (zti _ _ _) ?_
  intro q H hO
  refine zAb (ys:=[((n / 256 ^ y % 256:Nat):Int)]) hO hv' (by have:=zhb y n; simp[this]; omega) rfl (.inr rfl) ?_
  intro H v'' cs'' hO hv''
  refine zaa (zax (n:=8) rfl (by decide)) ?_
  repeat refine oi ?_
  refine⟨_,by omega,y+1,v'',cs'',by omega,rfl,?_,hO,?_⟩
  ·rw[zSK]; rfl
  ·rw[zrD,← List.append_assoc]; exact hv''
 ·have e:y=size:=by omega
  subst e
  repeat refine cy ?_
  exact hk _ _ _ hO hv'
def tkB(xs:List Int)(e:Int)(n:Nat):List Int:=if e=0∧n≤xs.length then xs.take n else []
def tkR(xs:List Int)(e:Int)(n:Nat):List Int:=if e=0∧n≤xs.length then xs.drop n else []
def tkE(xs:List Int)(e:Int)(n:Nat):Int:=if e=0∧n≤xs.length then 0 else if e=0 then 51 else e
abbrev rdr(v:Value)(e:Int):Blk:=⟨[v,int e],true⟩
theorem zdw{x' y:Nat × Blk}(h:Γ[j]?=some x'):(Γ.set j y)[j]?=some y:=List.getElem?_set_self (List.getElem?_eq_some_iff.1 h).1
theorem zsD{b':Blk}{s:Value}{p':Nat}(h:RdB Γ v xs)(hj:Γ[j]?=some (p,rdr s e))(hs:∃ a n c,s=.slice a n c):RdB (Γ.set j (p',b')) v xs:=by
 rcases h with h|⟨p2,o,c,h1,h2,h3|⟨j',b,h3,h4⟩⟩
 ·exact .inl h
 ·exact .inr ⟨p2,o,c,h1,h2,.inl h3⟩
 ·by_cases hjj:j'=j
  ·subst hjj
   rw[hj] at h3
   cases h3
   obtain⟨a,n,c',rfl⟩:=hs
   refine .inr ⟨_,o,c,h1,h2,.inl ?_⟩
   match xs,o,h4 with
   | [],_,_=>rfl
   | y::r,0,h4=>simp at h4
   | y::r,1,h4=>simp at h4
   | y::r,o+2,h4=>simp at h4
  ·exact .inr ⟨p2,o,c,h1,h2,.inr ⟨j',b,by rw[List.getElem?_set_ne (fun h=>hjj h.symm)]; exact h3,h4⟩⟩
theorem zDO(a:Option Addr)(n c:Nat):(zAa P 195).f [(0,.slice a n c)]=some (agg [.slice a n c,int 0]):=by kernel_rfl
theorem zLr(hO:St H Γ)(hv:RdB Γ v xs)(hk:∀ H' p,St H' (Γ++[(p,rdr v 0)])→K (ptr p 0) H'):wCall P zGg [v] H K:=by
 apply zDB; unfold zlD
 obtain⟨a,n,c,rfl⟩:=RdB.shape hv
 refine zaa (zDO _ _ _) ?_
 refine zxa hO ?_
 intro p H hO
 exact hk _ _ hO
theorem zuG{x:Int}(hO:St H Γ)(hj:Γ[j]?=some (p,rdr v e))(hk:∀ H',St H' (Γ.set j (p,rdr zya (if e=0 then x else e)))→K (.tuple [].toArray) H'):wCall P zTe [ptr p 0,int x] H K:=by
 apply zKm; unfold zzj
 refine zaa zfa ?_
 refine zaa zga ?_
 refine zha hO j hj rfl ?_
 refine zaa zfb ?_
 refine zja (fun h=>?_) (fun h=>?_)
 ·rw[if_pos h] at hk
  refine zaa zfa ?_
  refine zaa zga ?_
  refine zua hO j hj rfl (show 1 < 2 by omega) (show _=[v,int x] from rfl) ?_
  intro H hO
  refine zaa zfa ?_
  refine zaa zga ?_
  refine zua hO j (zdw hj) rfl (show 0 < 2 by omega) (show _=[zya,int x] from rfl) ?_
  intro H hO
  rw[List.set_set] at hO
  exact hk _ hO
 ·rw[if_neg h] at hk
  refine zaa zfa ?_
  refine zaa zga ?_
  refine zua hO j hj rfl (show 0 < 2 by omega) (show _=[zya,int e] from rfl) ?_
  intro H hO
  exact hk _ hO
abbrev Inh(v:Value)(xs:List Int)(v':Value)(ys:List Int):Prop:=∀ Γ':List (Nat × Blk),RdB Γ' v xs→RdB Γ' v' ys
theorem Inh.none{v:Value}{xs:List Int}:Inh v xs zya []:=fun _ _=>.nil
theorem zzx(h:RdB Γ v xs){n:Nat}(hn:n≤xs.length):∃ v',zLa 1 v none (some (int n)) none=some v'∧Inh v xs v' (xs.take n):=by
 rcases h with⟨rfl,rfl⟩|⟨p,o,c,rfl,hc,_⟩
 ·have:n=0:=by simpa using hn
  subst this
  exact⟨zya,rfl,.none⟩
 ·obtain⟨c',hc',he⟩:=zOI (o:=o) (p:=p) (n:=xs.length) (h:=(n:Int)) (by omega) (by omega) hc
  rw[Int.toNat_natCast] at he
  refine⟨_,he,fun Γ' h=>?_⟩
  rcases h with⟨h,_⟩|⟨p',o',c'',heq,_,h⟩
  ·cases h
  cases heq
  refine .inr ⟨p,o,c',by rw[List.length_take,Nat.min_eq_left hn],hc',?_⟩
  rcases h with rfl|⟨j,b,h1,h2⟩
  ·exact .inl (by simp)
  ·refine .inr ⟨j,b,h1,?_⟩
   rw[List.length_take,Nat.min_eq_left hn]
   have:=congrArg (List.take n) h2
   rw[List.take_take,Nat.min_eq_left hn] at this
   rw[this,by8,by8,List.map_take]
theorem zmo(h:RdB Γ v xs){n:Nat}(hn:n≤xs.length):∃ v',zLa 1 v (some (int n)) none none=some v'∧Inh v xs v' (xs.drop n):=by
 rcases h with⟨rfl,rfl⟩|⟨p,o,c,rfl,hc,_⟩
 ·have:n=0:=by simpa using hn
  subst this
  exact⟨zya,rfl,.none⟩
 ·have hb:zdd xs.length (some (int (n:Int)))=some n:=by
   show (match leB 0 (n:Int) with|true=>(match Nat.ble (n:Int).toNat xs.length with|true=>some (n:Int).toNat|false=>none)|false=>none)=_
   rw[zhc,decide_eq_true (by omega)]
   simp only[Int.toNat_natCast]
   rw[Nat.ble_eq_true_of_le (by omega)]
  have he:∃ c',(c'=2∨c'=3)∧zLa 1 (sl p o xs.length c) (some (int n)) none none=some (sl p (o+n) (xs.length - n) c'):=by
   rcases hc with rfl|rfl
   ·refine⟨2,.inl rfl,?_⟩
    unfold zLa
    simp only[zpc,hb]
    simp[zGj,zqc]
   ·refine⟨3,.inr rfl,?_⟩
    unfold zLa
    simp only[zpc,hb]
    simp[zGj,zqc]
  obtain⟨c',hc',he⟩:=he
  refine⟨_,he,fun Γ' h=>?_⟩
  rcases h with⟨h,_⟩|⟨p',o',c'',heq,_,h⟩
  ·cases h
  cases heq
  refine .inr ⟨p,o+n,c',by rw[List.length_drop],hc',?_⟩
  rcases h with rfl|⟨j,b,h1,h2⟩
  ·exact .inl (by simp)
  ·refine .inr ⟨j,b,h1,?_⟩
   have:=congrArg (List.drop n) h2
   rw[List.drop_take,List.drop_drop] at this
   rw[List.length_drop,this,by8,by8,List.map_drop]
theorem zPz{n:Nat}(hO:St H Γ)(hj:Γ[j]?=some (p,rdr v e))(hv:RdB Γ v xs)(hn:n≤1000000)
  (hk:∀ H' v1 v2,St H' (Γ.set j (p,rdr v2 (tkE xs e n)))→Inh v xs v1 (tkB xs e n)→Inh v xs v2 (tkR xs e n)→K v1 H'):wCall P zld [ptr p 0,int n] H K:=by
 apply zJm; unfold zwj
 repeat refine ow ?_
 rw[show max (n:Int) 0=n by omega]
 refine zwa (fun l' H'=>l'=[ptr p 0,int n,.bool (decide (¬ (e=0∧n≤xs.length)))]∧St H' Γ) ?_ ?_
 ·refine zaa zfa ?_
  refine zaa zga ?_
  refine zha hO j hj rfl ?_
  refine zaa zKa ?_
  refine zja (fun h=>?_) (fun h=>?_)
  ·repeat refine oi ?_
   exact⟨by rw[decide_eq_true (show ¬ (e=0∧n≤xs.length) from fun h'=>h h'.1)],hO⟩
  ·refine zaa zfa ?_
   refine zaa zga ?_
   refine zha hO j hj rfl ?_
   refine zDa hv.lenSl ?_
   repeat refine oi ?_
   refine⟨?_,hO⟩
   rw[decide_eq_decide.2 (show (xs.length:Int) < n↔¬ (e=0∧n≤xs.length) by omega)]
 clear hO
 rintro l' H ⟨rfl,hO⟩
 try simp only[zla,zma]
 refine zja (fun h=>?_) (fun h=>?_)
 ·unfold tkB tkR tkE at hk
  rw[if_neg h,if_neg h,if_neg h] at hk
  refine zuG hO hj ?_
  intro H hO
  exact hk _ zya zya hO .none .none
 ·have h:=Decidable.not_not.1 h
  unfold tkB tkR tkE at hk
  rw[if_pos h,if_pos h,if_pos h] at hk
  obtain⟨v1,e1,r1⟩:=zzx hv h.2
  obtain⟨v2,e2,r2⟩:=zmo hv h.2
  refine zaa zfa ?_
  refine zaa zga ?_
  refine zha hO j hj rfl ?_
  refine zaa e1 ?_
  refine zaa zfa ?_
  refine zaa zga ?_
  refine zha hO j hj rfl ?_
  refine zaa e2 ?_
  refine zaa zfa ?_
  refine zaa zga ?_
  obtain⟨a2,n2,c2,rfl⟩:=RdB.shape (r2 _ hv)
  refine zua hO j hj rfl (show 0 < 2 by omega) (show _=[.slice a2 n2 c2,int e] from rfl) ?_
  intro H hO
  rw[h.1] at hO
  exact hk _ v1 _ hO r1 r2
theorem zvG{t:Task}{K K':VH}(h:wT P t K)(hk:∀ v H,K v H→K' v H):wT P t K':=by
 obtain⟨n,ex,v,H',h1,h2⟩:=h
 exact⟨n,ex,v,H',h1,hk _ _ h2⟩
theorem zWu[L:LpC]{l q jq:Nat}{G:Nat→List (Nat × Blk)}(hq:∀ k,(G k)[jq]?=some (q,⟨[v],true⟩))(hv:∀ k,RdB (G k) v xs)(hx:xs.length≤1000000)
  (hr:∀ k (h:k < xs.length) H,St H (G (k+1))→wT P (.round l [int k,.int .u8 xs[k]] H) fun b H'=>b=.bool true∧St H' (G k)) (hO:St H (G xs.length)) (hk:∀ H',St H' (G 0)→K (.tuple [].toArray) H'):wCall P zcb [zSj l,ptr q 0] H K:=by
 apply zVf; unfold zvd
 refine zha hO jq (hq _) rfl ?_
 refine zDa (hv xs.length).lenSl ?_
 repeat refine oi ?_
 refine zxe (fun k l' H'=>∃ y:Nat,y≤xs.length∧k=y∧l'=[zSj l,ptr q 0,int ((y:Int) - 1)]∧St H' (G y)) _ _ ?_ xs.length _ _ ⟨xs.length,by omega,rfl,rfl,hO⟩
 clear hO
 rintro k l' H' ⟨y,hy,rfl,rfl,hO⟩
 unfold zFc
 try simp only[zla,zma]
 repeat refine oi ?_
 refine zja (fun h=>?_) (fun h=>?_)
 ·obtain⟨z,rfl⟩:∃ z:Nat,k=z+1:=⟨k - 1,by omega⟩
  have hz:z < xs.length:=by omega
  have ez:((z+1:Nat):Int) - 1=z:=by omega
  rw[ez] at *
  refine zha hO jq (hq _) rfl ?_
  obtain⟨p2,o,c,j2,b,rfl,h1,h2⟩:=(hv (z+1)).at hz
  repeat refine oi ?_
  refine zha hO j2 h1 (v:=.int .u8 xs[z]) (by simpa using h2) ?_
  refine zfD (zvG (hr z hz _ hO) ?_)
  rintro b2 H2 ⟨rfl,hO2⟩
  repeat (first|refine oi ?_|refine wf' ?_)
  exact⟨_,by omega,z,by omega,rfl,rfl,hO2⟩
 ·have:k=0:=by omega
  subst this
  repeat refine cy ?_
  exact hk _ hO
def leV:List Int→Nat
 | []=>0
 | x::r=>x.toNat+256 * leV r
theorem zFt:∀ (xs:List Int),(∀ x ∈ xs,0≤x∧x≤255)→leV xs < 256 ^ xs.length
 | [],_=>by simp[leV]
 | x::r,h=>by
  have h1:=zFt r fun y hy=>h y (List.mem_cons_of_mem _ hy)
  have h2:=h x List.mem_cons_self
  simp only[leV,List.length_cons,Nat.pow_succ]
  omega
theorem zPI{k:Nat}(h:k < xs.length):leV (xs.drop k)=xs[k].toNat+256 * leV (xs.drop (k+1)):=by
 rw[List.drop_eq_getElem_cons h]; rfl
theorem zsM{a b:Nat}(hb:b < 256):(a * 2 ^ 8) ||| b=b+256 * a:=by
 rw[Nat.mul_comm,← Nat.two_pow_add_eq_or_of_lt (i:=8) hb]; omega
theorem RdB.bytes(hb:∀ x ∈ xs,0≤x∧x≤255)(n:Nat)(e:Int):∀ x ∈ tkB xs e n,0≤x∧x≤255:=by
 unfold tkB
 split
 ·exact fun x hx=>hb x (List.mem_of_mem_take hx)
 ·simp
theorem zAx(xs:List Int)(e:Int)(n:Nat):(tkB xs e n).length≤n:=by
 unfold tkB
 split
 ·rw[List.length_take]; omega
 ·simp
theorem zpE[L:LpC]{q5 m:Nat}{b:Int}{y:Nat × Blk}{X:Heap→Prop}(hO:St H (Γ++[(q5,⟨[zib .u64 m],true⟩),y]))(hm:m < 256 ^ 7)(hb:0≤b∧b≤255)(hk:∀ H',St H' (Γ++[(q5,⟨[zib .u64 (b.toNat+256 * m)],true⟩),y])→X H') :
  opW (zba (ptr q5 0) H) fun t15 H2=>opP ((zsa P .shl 23 true).f t15 (.int .u64 8)) fun t16=>opW (zob .u64 (.int .u8 b) H2) fun t18 H5=>opP ((zsa P .or 23 false).f t16 t18) fun t19=>opW (zka 1 (ptr q5 0) t19 H5) fun u H8=>X H8:=by
 refine zha hO (Γ.length+0) (zqa rfl) rfl ?_
 refine zaa (zLI (n:=8) rfl (by decide)) ?_
 rw[zuf hb.1]
 refine zDa (cvU rfl) ?_
 have h2:m * 2 ^ 8 % szU .u64=m * 2 ^ 8:=Nat.mod_eq_of_lt (show m * 2 ^ 8 < 2 ^ 64 by omega)
 have h3:b.toNat % szU .u64=b.toNat:=Nat.mod_eq_of_lt (show b.toNat < 2 ^ 64 by omega)
 rw[h2,h3]
 refine zaa (zKK rfl (show m * 2 ^ 8 < 2 ^ 64 by omega) (show b.toNat < 2 ^ 64 by omega)) ?_
 rw[zsM (by omega)]
 refine zua hO (Γ.length+0) (zqa rfl) rfl (show 0 < 1 by omega) (show _=[zib .u64 (b.toNat+256 * m)] from rfl) ?_
 intro H hO
 exact hk _ hO.set_r
set_option maxHeartbeats 1000000 in
theorem zuc{k:Nat}(hk8:k≤8)(hO:St H Γ)(hj:Γ[j]?=some (p,rdr v e))(hv:RdB Γ v xs)(hb:∀ x ∈ xs,0≤x∧x≤255)
  (hk:∀ H' v2,St H' (Γ.set j (p,rdr v2 (tkE xs e k)))→Inh v xs v2 (tkR xs e k)→K (zib .u64 (leV (tkB xs e k))) H'):wCall P zCa [ptr p 0,int k] H K:=by
 apply zpl; unfold zhi
 refine zxa hO ?_
 intro q5 H hO
 have hjl:=(List.getElem?_eq_some_iff.1 hj).1
 refine zua hO (Γ.length+0) (zqa rfl) rfl (show 0 < 1 by omega) (show _=[zib .u64 0] from rfl) ?_
 intro H hO
 replace hO:St H (Γ++[(q5,⟨[zib .u64 0],true⟩)]):=hO.set_r
 refine zDt hk8 ?_
 refine zPz hO (zza hj) hv.app (by omega) ?_
 intro H v1 v2 hO r1 r2
 rw[List.set_append_left _ _ hjl] at hO
 have hbb:=RdB.bytes hb k e
 have hbl:=zAx xs e k
 have hk:=hk (v2:=v2)
 have r1:=r1 _ (zsD (b':=rdr v2 (tkE xs e k)) (p':=p) hv hj (RdB.shape hv))
 generalize Γ.set j (p,rdr v2 (tkE xs e k))=Γ2 at *
 generalize tkB xs e k=bs at *
 apply zBg
 unfold zWd
 refine zxa hO ?_
 intro q H9 hO
 obtain⟨a1,n1,c1,e1⟩:=RdB.shape r1
 have hc1:zFa v1=[v1]:=by rw[e1]; rfl
 rw[hc1,List.append_assoc] at hO
 have G0:∀ m:Nat,RdB (Γ2++[(q5,⟨[zib .u64 m],true⟩),(q,⟨[v1],true⟩)]) v1 bs:=fun m=>r1.app
 refine zeD (L:=lp0) hO (f:=zcb) (args:=[zSj (Nat.succ H9.next),ptr q 0]) rfl ?_
 intro T hT hag H0 hO0
 generalize hL:lpc (Nat.succ H9.next) _ lp0=L at hO0
 refine zWu (L:=L) (l:=Nat.succ H9.next) (jq:=Γ2.length+1) (G:=fun m=>Γ2++[(q5,⟨[zib .u64 (leV (bs.drop m))],true⟩),(q,⟨[v1],true⟩)]) (fun m=>zqa rfl) (fun m=>G0 _) (by omega) ?_ (by rw[List.drop_of_length_le (Nat.le_refl _)]; exact hO0) ?_
 ·intro m hm H hOm
  subst hL
  refine zdD (n:=21) hOm hT hag rfl (by decide) ?_
  rw[zej]
  unfold zkg
  refine zUy hOm ?_
  intro H2 hO2
  have hx:=hbb _ (List.getElem_mem hm)
  have hlt:=zFt (bs.drop (m+1)) fun y hy=>hbb y (List.mem_of_mem_drop hy)
  have hpw:256 ^ (bs.drop (m+1)).length≤256 ^ 7:=Nat.pow_le_pow_right (by omega) (by rw[List.length_drop]; omega)
  refine zpE (L:=lpc (Nat.succ H9.next) _ lp0) hO2 (Nat.lt_of_lt_of_le hlt hpw) hx ?_
  intro H3 hO3
  refine zpG hO3 ?_
  intro H4 hO4
  refine⟨rfl,?_⟩
  rw[zPI hm]
  exact hO4
 ·intro H2 hO2
  subst hL
  refine⟨.ready,_,by simp,hO2,?_⟩
  intro H3 hO3
  show opW _ _
  refine zha hO3 (Γ2.length+0) (zqa rfl) rfl ?_
  exact hk _ hO3.left r2
abbrev rdN(Γ:List (Nat × Blk))(j p:Nat)(xs:List Int)(e:Int)(n:Nat)(v2:Value):List (Nat × Blk):=Γ.set j (p,rdr v2 (tkE xs e n))
theorem zGt{n:Nat}(hO:St H Γ)(hj:Γ[j]?=some (p,rdr v e))(hv:RdB Γ v xs)(hn:n≤1000000)(hx:xs.length≤1000000)
  (hk:∀ H' v2 v' cs',St H' (rdN Γ j p xs e n v2++zGa v' cs')→Inh v xs v2 (tkR xs e n)→OwnB v' (tkB xs e n) cs'→K v' H'):wCall P zBc [ptr p 0,int n] H K:=by
 apply zXn; unfold zrk
 refine zPz hO hj hv hn ?_
 intro H v1 v2 hO r1 r2
 have hl:=zAx xs e n
 refine znp hO (r1 _ (zsD (b':=rdr v2 (tkE xs e n)) (p':=p) hv hj (RdB.shape hv))) (by omega) ?_
 intro H' v' cs' hO' hv'
 exact hk H' v2 v' cs' hO' r2 hv'
end J
set_option linter.unusedSimpArgs false
set_option maxRecDepth 100000
namespace J
open Go Go.Ab
variable{H:Heap}{Γ:List (Nat × Blk)}{K:VH}{v w x:Value}{xs ys:List Int}{j p:Nat}{e:Int}
section
variable{α:Type}{f:α→List Value}{l:List α}{n i o m:Nat}
theorem zno(hw:∀ x ∈ l,(f x).length=n):(l.flatMap f).length=l.length * n:=by
 induction l with
 | nil=>simp
 | cons a l ih=>
  rw[List.flatMap_cons,List.length_append,ih (fun x h=>hw x (List.mem_cons_of_mem _ h)),hw a List.mem_cons_self,List.length_cons,Nat.add_mul]; omega
theorem zBx(hw:∀ x ∈ l,(f x).length=n)(h:i < l.length):∃ A B,l.flatMap f=A++(f l[i]++B)∧A.length=i * n∧∀ y,(l.set i y).flatMap f=A++(f y++B):=by
 refine⟨(l.take i).flatMap f,(l.drop (i+1)).flatMap f,?_,?_,fun y=>?_⟩
 ·conv=>lhs; rw[← List.take_append_drop i l,List.drop_eq_getElem_cons h]
  rw[List.flatMap_append,List.flatMap_cons]
 ·rw[zno (fun x h=>hw x (List.mem_of_mem_take h)),List.length_take,Nat.min_eq_left (by omega)]
 ·rw[List.set_eq_take_append_cons_drop,if_pos h,List.flatMap_append,List.flatMap_cons]
theorem zNm(hw:∀ x ∈ l,(f x).length=n)(h:i < l.length)(hm:o+m≤n):((l.flatMap f).drop (i * n+o)).take m=((f l[i]).drop o).take m:=by
 obtain⟨A,B,e,ha,_⟩:=zBx hw h
 have hl:=hw _ (List.getElem_mem h)
 rw[e,← List.drop_drop,← ha,List.drop_left,List.drop_append_of_le_length (by omega),List.take_append_of_le_length (by rw[List.length_drop]; omega)]
theorem zel(hw:∀ x ∈ l,(f x).length=n)(h:i < l.length){y:α}{new:List Value}(hm:o+new.length≤n)(hy:f y=(f l[i]).take o++(new++(f l[i]).drop (o+new.length))) :
  (l.flatMap f).take (i * n+o)++(new++(l.flatMap f).drop (i * n+o+new.length))=(l.set i y).flatMap f:=by
 obtain⟨A,B,e,ha,hs⟩:=zBx hw h
 have hl:=hw _ (List.getElem_mem h)
 rw[hs,hy,e,← ha]
 have e1:(A++(f l[i]++B)).take (A.length+o)=A++(f l[i]).take o:=by
  rw[List.take_length_add_append,List.take_append_of_le_length (by omega)]
 have e2:(A++(f l[i]++B)).drop (A.length+o+new.length)=(f l[i]).drop (o+new.length)++B:=by
  rw[Nat.add_assoc,List.drop_length_add_append,List.drop_append_of_le_length (by omega)]
 rw[e1,e2]
 simp
theorem flat_get(hw:∀ x ∈ l,(f x).length=n)(h:i < l.length)(hm:o < n):(l.flatMap f)[i * n+o]?=(f l[i])[o]?:=by
 obtain⟨A,B,e,ha,_⟩:=zBx hw h
 have hl:=hw _ (List.getElem_mem h)
 rw[e,← ha,List.getElem?_append_right (by omega),Nat.add_sub_cancel_left,List.getElem?_append_left (by omega)]
end
theorem _root_.Go.Ab.St.rot[lp:LpC]{A B:List (Nat × Blk)}(h:St H ((Γ++A)++B)):St H ((Γ++B)++A):=h.perm (by
 rw[List.append_assoc,List.append_assoc]
 exact List.Perm.append_left Γ List.perm_append_comm)
theorem zDq[lp:LpC]{size bytes n q c:Nat}{cs new:List Value}{b:Bool}(hO:St H ((Γ++zGa v cs)++[(q,⟨new,b⟩)]))(hv:Own size v n cs)(hs:new.length=size)(hp:0 < size)(h1:new.all oneCell=true)
  (hr:(n+1) * bytes≤140737488355328) (hr2:n+1≤9223372036854775807)
  (hk:∀ p' H',St H' (Γ++[(p',⟨cs++new,true⟩)])→Own size (sl p' 0 (n+1) (2 * size)) (n+1) (cs++new)→K (sl p' 0 (n+1) (2 * size)) H'):opW (zva size bytes v (sl q 0 1 c) H) K:=by
 have hO2:=hO.rot
 refine zDv hO2 hv hp (m:=1) rfl (new:=new) ?_ (by omega) hr hr2 h1 (by omega) ?_
 ·have hg:=hO.at ((Γ++zGa v cs).length+0) (zqa rfl) (b:=⟨new,b⟩) (.inr (by intro h; simp only at h; rw[h] at hs; simp at hs; omega))
  rw[zVw hg (by simp[hs])]
  rw[List.drop_zero,Nat.one_mul,List.take_of_length_le (Nat.le_of_eq hs)]
 ·intro p' H' hO' hv'
  refine hk _ _ ?_ hv'
  show St H' (Γ++[(p',⟨cs++new,true⟩)])
  exact St.sub hO' (List.Sublist.append (List.sublist_append_left _ _) (List.Sublist.refl _))
theorem zSc[lp:LpC]{size bytes n q c:Nat}{cs new:List Value}{b:Bool}(hO:St H ((Γ++zGa v cs)++[(q,⟨new,b⟩)]))(hv:Own size v n cs)(hs:new.length=size)(hp:0 < size)(h1:new.all oneCell=true)
  (hr:(n+1) * bytes≤140737488355328) (hr2:n+1≤9223372036854775807)
  (hk:∀ v' H',St H' (Γ++zGa v' (cs++new))→Own size v' (n+1) (cs++new)→K v' H'):opW (zva size bytes v (sl q 0 1 c) H) K:=
 zDq hO hv hs hp h1 hr hr2 fun p' H' h1 h2=>hk _ _ h1 h2
abbrev sec(s:List Int):Value:=agg (by8 s)
def blank:List Int:=List.replicate 64 255
def zeros:List Int:=List.replicate 64 0
theorem zta(s:List Int):(by8 s).length=s.length:=by simp[by8]
theorem ztb(s:List Int):(by8 s).all oneCell=true:=by simp[by8,oneCell]
theorem zHg(xs:List Int):(by8 xs).all zMd=true:=by simp[zMd,zDe]
theorem zcS:zc P 94=by8 zeros:=by kernel_rfl
theorem bS:(zAa P 94).f []=some (sec zeros):=by kernel_rfl
def zrO:List CK:=List.replicate 64 (.i .u8)
theorem fS:flatK P 100 94=some zrO:=by kernel_rfl
theorem zwG:∀ (s:List Int),Fit (List.replicate s.length (.i .u8)) (by8 s)
 | []=>trivial
 | _::s=>⟨rfl,zwG s⟩
theorem ztD{s:List Int}(h:s.length=64):Fit zrO (by8 s):=by
 have:=zwG s
 rw[h] at this; exact this
theorem zOm:∀ (a b:List Int),zPa (by8 a) (by8 b)=decide (a=b)
 | [],[]=>rfl
 | [],_::_=>rfl
 | _::_,[]=>rfl
 | x::a,y::b=>by
  show (decide (x=y) && zPa (by8 a) (by8 b))=_
  rw[zOm a b]
  by_cases h:x=y
  ·subst h; simp
  ·simp[h]
theorem eqS{a b:List Int}(c:Bool)(ha:a.length=64)(hb:b.length=64):(zsa P .eql 94 c).f (sec a) (sec b)=some (.bool (decide (a=b))):=by
 rw[zqn fS (by kernel_rfl) (by kernel_rfl) (ztD ha) (ztD hb),zOm]
theorem neS{a b:List Int}(c:Bool)(ha:a.length=64)(hb:b.length=64):(zsa P .neq 94 c).f (sec a) (sec b)=some (.bool (decide (a≠b))):=by
 rw[zEs fS (by kernel_rfl) (by kernel_rfl) (ztD ha) (ztD hb),zOm]
 simp
theorem zuD{y:Nat}(h:y < 64):(by8 (List.replicate y 255++List.replicate (64 - y) 0)).set (0+((y:Int)).toNat * 1) (.int .u8 255)=by8 (List.replicate (y+1) 255++List.replicate (64 - (y+1)) 0):=by
 have e:0+((y:Int)).toNat * 1=y:=by rw[Int.toNat_natCast]; omega
 rw[e,show 64 - y=(64 - (y+1))+1 by omega,List.replicate_succ]
 have e2:by8 (List.replicate y 255++0::List.replicate (64 - (y+1)) 0)=by8 (List.replicate y 255)++(.int .u8 0::by8 (List.replicate (64 - (y+1)) 0)):=by simp[by8]
 rw[e2,List.set_append_right _ _ (by rw[zta]; simp),zta,List.length_replicate,Nat.sub_self,List.set_cons_zero,List.replicate_succ']
 simp[by8]
theorem zIg[lp:LpC](hO:St H Γ)(hk:∀ H',St H' Γ→K (sec blank) H'):wCall P zIb [] H K:=by
 apply zxu; unfold zOs
 rw[zcS]
 refine zxa hO ?_
 intro p0 H hO
 refine zxa hO ?_
 intro p1 H hO
 rw[List.append_assoc] at hO
 refine zzn (fun k l' H'=>∃ y:Nat,y≤64∧k=64 - y∧l'=[ptr p0 0,ptr p1 0,int y]∧St H' (Γ++[(p0,⟨by8 zeros,true⟩),(p1,⟨by8 (List.replicate y 255++List.replicate (64 - y) 0),true⟩)])) _ _ ?_ 64 _ _ ⟨0,by omega,rfl,rfl,hO⟩
 clear hO
 rintro k l' H' ⟨y,hy,rfl,rfl,hO⟩
 unfold zJl
 try simp only[zla,zma]
 repeat refine oi ?_
 refine zja (fun h=>?_) (fun h=>?_)
 ·have hyl:y < 64:=by omega
  refine zaa (zjb (by omega) (by omega)) ?_
  refine zua hO (Γ.length+1) (zqa rfl) rfl (by rw[zta]; simp; omega) (zuD hyl) ?_
  intro H hO
  repeat refine oi ?_
  exact⟨_,by omega,y+1,by omega,rfl,rfl,hO.set_r⟩
 ·have e:y=64:=by omega
  subst e
  repeat refine cy ?_
  refine zia hO (Γ.length+1) (zqa rfl) (by rw[zta]; rfl) (by omega) ?_
  refine zoa hO (Γ.length+0) (zqa rfl) (by rw[zta]; rfl) (by rw[zta]; rfl) (ztb _) ?_
  intro H hO
  refine zia hO (Γ.length+0) (by rw[Go.Ab.set_r]; exact zqa rfl) (by rw[zta]; rfl) (by omega) ?_
  exact hk _ (hO.set_r).left
end J
set_option maxRecDepth 100000
namespace J
open Go Go.Ab
variable{H:Heap}{Γ:List (Nat × Blk)}{K:VH}{v w x:Value}{xs ys:List Int}{j p:Nat}{e:Int}
structure Cell where
 kept:List Int
 seen:List Int
 wear:Int
structure Dv where
 cells:List Cell
 done:List (Nat × List Int)
 most:Int
 budget:Int
 down:Bool
def cel(c:Cell):List Value:=by8 c.kept++(by8 c.seen++[int c.wear])
def zff(l:List Cell):List Value:=l.flatMap cel
def chg(c:Nat × List Int):List Value:=int c.1::by8 c.2
def zkh(l:List (Nat × List Int)):List Value:=l.flatMap chg
structure Cell.Ok (c:Cell):Prop where
 k:c.kept.length=64
 s:c.seen.length=64
 w:0≤c.wear∧c.wear≤100000
structure Dv.Ok (d:Dv):Prop where
 c:∀ c ∈ d.cells,c.Ok
 n:d.cells.length≤4096
 ds:∀ x ∈ d.done,x.1 < d.cells.length∧x.2.length=64
 m:d.most≤100000
 b:-1≤d.budget∧d.budget≤9223372036854775807
theorem zCf{c:Cell}(h:c.Ok):(cel c).length=129:=by simp[cel,zta,h.k,h.s]
theorem zhe{c:Nat × List Int}(h:c.2.length=64):(chg c).length=65:=by simp[chg,zta,h]
theorem zqE(c:Cell):(cel c).all zMd=true:=by simp[cel,zMd,zDe]
theorem zTK(c:Cell):(cel c).all oneCell=true:=by simp[cel,by8,oneCell]
theorem zop(c:Nat × List Int):(chg c).all oneCell=true:=by simp[chg,by8,oneCell]
theorem zJB(l:List Cell):(zff l).all zMd=true:=by
 simp only[zff,List.all_flatMap,List.all_eq_true]
 intro c _ x hx
 exact List.all_eq_true.1 (zqE c) x hx
theorem zvD{l:List Cell}(h:∀ c ∈ l,c.Ok):(zff l).length=l.length * 129:=zno fun c hc=>zCf (h c hc)
def dv(pc:Nat)(vd:Value)(d:Dv):List Value:=[sl pc 0 d.cells.length 259,vd,int d.most,int d.budget,.bool d.down]
abbrev DW(pd pc:Nat)(vd:Value)(d:Dv):List (Nat × Blk):=[(pd,⟨dv pc vd d,true⟩),(pc,⟨zff d.cells,true⟩)]++zGa vd (zkh d.done)
abbrev zrE(vd:Value)(d:Dv):Prop:=Own 65 vd d.done.length (zkh d.done)
def Dv.has(d:Dv)(at':Int):Prop:=0≤at'∧at' < d.cells.length
instance (d:Dv) (at':Int):Decidable (d.has at'):=by unfold Dv.has; infer_instance
variable{pd pc:Nat}{vd:Value}{d:Dv}{a:Int}
theorem zsE(hO:St H Γ)(hj:Γ[j]?=some (pd,⟨dv pc vd d,true⟩))(hk:K (int d.cells.length) H):wCall P zee [ptr pd 0] H K:=by
 apply znl; unfold zdi
 repeat refine oi ?_
 refine zha hO j hj rfl ?_
 repeat refine ow ?_
 exact hk
theorem zHt(hO:St H Γ)(hj:Γ[j]?=some (pd,⟨dv pc vd d,true⟩))(hk1:d.has a→K (ptr pc (a.toNat * 129)) H)(hk0:¬ d.has a→K (.pointer none) H):wCall P zdc [ptr pd 0,int a] H K:=by
 apply zul; unfold zqi
 refine zwa (fun l' H'=>l'=[ptr pd 0,int a]∧H'=H∧d.has a) ?_ ?_
 ·repeat refine oi ?_
  refine zja (fun h=>?_) (fun h=>?_)
  ·repeat (first|refine oi ?_|refine wt ?_)
   exact hk0 fun h'=>by have:=h'.1; omega
  ·repeat refine oi ?_
   refine zha hO j hj rfl ?_
   repeat (first|refine oi ?_|refine ow ?_)
   refine zja (fun h2=>?_) (fun h2=>?_)
   ·exact hk0 fun h'=>by have:=h'.2; omega
   ·exact⟨rfl,rfl,by omega,by omega⟩
 ·rintro l' H' ⟨rfl,rfl,h⟩
  try simp only[zla,zma]
  repeat refine oi ?_
  refine zha hO j hj rfl ?_
  refine zaa (zHa h.1 h.2) ?_
  rw[Nat.zero_add]
  exact hk1 h
def zQa:Cell:=⟨zeros,zeros,0⟩
def Dv.cell(d:Dv)(a:Int):Cell:=d.cells.getD a.toNat zQa
theorem Dv.get{d:Dv}{a:Int}(h:d.has a):∃ hi:a.toNat < d.cells.length,d.cells[a.toNat]=d.cell a:=by
 have hi:a.toNat < d.cells.length:=by have:=h.1; have:=h.2; omega
 refine⟨hi,?_⟩
 unfold Dv.cell
 rw[List.getD_eq_getElem?_getD,List.getElem?_eq_getElem hi]; rfl
theorem Dv.cellOk{d:Dv}{a:Int}(ok:∀ c ∈ d.cells,c.Ok)(h:d.has a):(d.cell a).Ok:=by
 obtain⟨hi,e⟩:=Dv.get h
 rw[← e]
 exact ok _ (List.getElem_mem hi)
theorem zxG{d:Dv}{a:Int}(ok:∀ c ∈ d.cells,c.Ok)(h:d.has a):((zff d.cells).drop (a.toNat * 129+64)).take 64=by8 (d.cell a).seen:=by
 obtain⟨hi,e⟩:=Dv.get h
 unfold zff
 rw[zNm (fun c hc=>zCf (ok c hc)) hi (by omega),e]
 have hk:=(Dv.cellOk ok h)
 unfold cel
 rw[List.drop_left' (by rw[zta]; exact hk.k),List.take_left' (by rw[zta]; exact hk.s)]
theorem zyG{d:Dv}{a:Int}(ok:∀ c ∈ d.cells,c.Ok)(h:d.has a):((zff d.cells).drop (a.toNat * 129+0)).take 64=by8 (d.cell a).kept:=by
 obtain⟨hi,e⟩:=Dv.get h
 unfold zff
 rw[zNm (fun c hc=>zCf (ok c hc)) hi (by omega),e]
 have hk:=(Dv.cellOk ok h)
 unfold cel
 rw[List.drop_zero,List.take_left' (by rw[zta]; exact hk.k)]
theorem zzG{d:Dv}{a:Int}(ok:∀ c ∈ d.cells,c.Ok)(h:d.has a):(zff d.cells)[a.toNat * 129+128]?=some (int (d.cell a).wear):=by
 obtain⟨hi,e⟩:=Dv.get h
 unfold zff
 rw[flat_get (fun c hc=>zCf (ok c hc)) hi (by omega),e]
 have hk:=(Dv.cellOk ok h)
 unfold cel
 rw[← List.append_assoc,List.getElem?_append_right (by simp[zta,hk.k,hk.s])]
 simp[zta,hk.k,hk.s]
def Dv.read(d:Dv)(a:Int):List Int × Int:=if d.has a then ((d.cell a).seen,0) else (zeros,61)
theorem ztE(ok:∀ c ∈ d.cells,c.Ok)(hO:St H (Γ++DW pd pc vd d))(hk:∀ H',St H' (Γ++DW pd pc vd d)→K (.tuple [sec (d.read a).1,int (d.read a).2].toArray) H'):wCall P zfe [ptr pd 0,int a] H K:=by
 apply zsl; unfold zni
 rw[zcS]
 refine zxa hO ?_
 intro p4 H hO
 refine zHt hO (zza (zqa (k:=0) rfl)) ?_ ?_
 ·intro h
  unfold Dv.read at hk
  rw[if_pos h] at hk
  refine zaa (show (zsa P .eql 224 true).f _ _=some (.bool false) from rfl) ?_
  repeat (first|refine oi ?_|refine wf' ?_)
  refine zBa hO (Γ.length+1) (zza (zqa rfl)) (zxG ok h) (by rw[zta]; exact (Dv.cellOk ok h).s) (by omega) ?_
  refine zoa hO ((Γ++DW pd pc vd d).length+0) (zqa rfl) (by rw[zta]; rfl) (by rw[zta]; exact (Dv.cellOk ok h).s) (ztb _) ?_
  intro H hO
  replace hO:=hO.set_r
  refine zia hO ((Γ++DW pd pc vd d).length+0) (zqa rfl) (by rw[zta]; exact (Dv.cellOk ok h).s) (by omega) ?_
  exact hk _ hO.left
 ·intro h
  unfold Dv.read at hk
  rw[if_neg h] at hk
  refine zaa (show (zsa P .eql 224 true).f _ _=some (.bool true) from rfl) ?_
  repeat refine wt ?_
  refine zaa bS ?_
  refine zoa hO ((Γ++DW pd pc vd d).length+0) (zqa rfl) (by rw[zta]; rfl) (by rw[zta]; rfl) (ztb _) ?_
  intro H hO
  replace hO:=hO.set_r
  refine zia hO ((Γ++DW pd pc vd d).length+0) (zqa rfl) (by rw[zta]; rfl) (by omega) ?_
  exact hk _ hO.left
def Dv.step(d:Dv):Dv:={ d with down:=d.down || decide (d.budget=0),budget:=if ¬ (d.down=true∨d.budget=0)∧0 < d.budget then d.budget - 1 else d.budget }
theorem zAG(hb:-1≤d.budget∧d.budget≤9223372036854775807)(hO:St H Γ)(hj:Γ[j]?=some (pd,⟨dv pc vd d,true⟩))(hk:∀ H',St H' (Γ.set j (pd,⟨dv pc vd d.step,true⟩))→K (.bool !d.step.down) H'):wCall P zGb [ptr pd 0] H K:=by
 apply zvl; unfold zsi
 have hjl:=(List.getElem?_eq_some_iff.1 hj).1
 refine zwa (fun l' H'=>l'=[ptr pd 0]∧St H' (Γ.set j (pd,⟨dv pc vd { d with down:=d.down || decide (d.budget=0) },true⟩))) ?_ ?_
 ·repeat refine oi ?_
  refine zha hO j hj rfl ?_
  cases hd:d.down with
  | true=>
   repeat (first|refine oi ?_|refine wt ?_)
   refine zua hO j hj rfl (show 4 < 5 by omega) rfl ?_
   intro H hO
   refine⟨rfl,?_⟩
   simp only[Bool.true_or]
   exact hO
  | false=>
   repeat (first|refine oi ?_|refine wf' ?_)
   refine zha hO j hj rfl ?_
   repeat refine oi ?_
   refine zua hO j hj rfl (show 4 < 5 by omega) rfl ?_
   intro H hO
   refine⟨rfl,?_⟩
   simp only[Bool.false_or]
   exact hO
 clear hO
 rintro l' H ⟨rfl,hO⟩
 try simp only[zla,zma]
 have hj2:(Γ.set j (pd,(⟨dv pc vd { d with down:=d.down || decide (d.budget=0) },true⟩:Blk)))[j]?=some (pd,⟨dv pc vd { d with down:=d.down || decide (d.budget=0) },true⟩):=List.getElem?_set_self hjl
 refine zwa (fun l' H'=>l'=[ptr pd 0]∧St H' (Γ.set j (pd,⟨dv pc vd d.step,true⟩))) ?_ ?_
 ·refine zwa (fun l' H'=>l'=[ptr pd 0,.bool (decide (¬ (d.down=true∨d.budget=0)∧0 < d.budget))]∧H'=H) ?_ ?_
  ·repeat refine oi ?_
   refine zha hO j hj2 rfl ?_
   refine zaa zyc ?_
   by_cases hd:d.down=true∨d.budget=0
   ·have e:(d.down || decide (d.budget=0))=true:=by rcases hd with h|h <;> simp[h]
    rw[show (!({ d with down:=d.down || decide (d.budget=0) }:Dv).down)=false by show (!(d.down || decide (d.budget=0)))=false; rw[e]; rfl]
    repeat (first|refine oi ?_|refine wf' ?_)
    exact⟨by rw[decide_eq_false (fun h=>h.1 hd)],rfl⟩
   ·have e:(d.down || decide (d.budget=0))=false:=by
     cases h:d.down with
     | true=>exact absurd (.inl h) hd
     | false=>simp; exact fun h=>hd (.inr h)
    rw[show (!({ d with down:=d.down || decide (d.budget=0) }:Dv).down)=true by show (!(d.down || decide (d.budget=0)))=true; rw[e]; rfl]
    repeat (first|refine oi ?_|refine wt ?_)
    refine zha hO j hj2 rfl ?_
    repeat refine oi ?_
    refine⟨?_,rfl⟩
    show _=[ptr pd 0,.bool _]
    rw[decide_eq_decide.2 (show (0 < d.budget)↔(¬ (d.down=true∨d.budget=0)∧0 < d.budget) from⟨fun h=>⟨hd,h⟩,fun h=>h.2⟩)]
  rintro l' H' ⟨rfl,rfl⟩
  try simp only[zla,zma]
  refine zja (fun h=>?_) (fun h=>?_)
  ·repeat refine oi ?_
   refine zha hO j hj2 rfl ?_
   refine zaa (zae (by have:=h.2; show _≤d.budget - 1; omega) (by show d.budget - 1≤_; omega)) ?_
   repeat refine oi ?_
   refine zua hO j hj2 rfl (show 3 < 5 by omega) rfl ?_
   intro H hO
   rw[List.set_set] at hO
   refine⟨trivial,?_⟩
   have e:d.step={ d with down:=d.down || decide (d.budget=0),budget:=d.budget - 1 }:=by unfold Dv.step; rw[if_pos h]
   rw[e]; exact hO
  ·refine⟨trivial,?_⟩
   have e:d.step={ d with down:=d.down || decide (d.budget=0) }:=by unfold Dv.step; rw[if_neg h]
   rw[e]; exact hO
 clear hO hj2
 rintro l' H ⟨rfl,hO⟩
 try simp only[zla,zma]
 repeat refine oi ?_
 refine zha hO j (List.getElem?_set_self hjl) rfl ?_
 repeat refine oi ?_
 exact hk _ hO
end J
set_option maxRecDepth 100000
namespace J
open Go Go.Ab
variable{H:Heap}{Γ:List (Nat × Blk)}{K:VH}{v w x:Value}{xs ys:List Int}{j p:Nat}{e:Int}
variable{pd pc:Nat}{vd:Value}{d:Dv}{a:Int}{s:List Int}
theorem zIt(h:s.length=64):∃ g:Nat→Int,s=(List.range 64).map g:=⟨fun i=>s.getD i 0,by
 apply List.ext_getElem?
 intro i
 by_cases hi:i < 64
 ·simp[hi,h]
 ·rw[List.getElem?_eq_none (by omega),List.getElem?_eq_none (by simp; omega)]⟩
theorem zNN(a:Int)(g:Nat→Int):(zAa P 123).f [(0,int a),(1,sec ((List.range 64).map g))]=some (agg (int a::by8 ((List.range 64).map g))):=by kernel_rfl
theorem zEO(a:Int)(h:s.length=64):(zAa P 123).f [(0,int a),(1,sec s)]=some (agg (int a::by8 s)):=by
 obtain⟨g,rfl⟩:=zIt h
 exact zNN a g
theorem ztM(a:Int)(g:Nat→Int)(H:Heap):(zpa P 90 1).f [(0,agg (int a::by8 ((List.range 64).map g)))] H=some (sl H.next 0 1 131,H.push (int a::by8 ((List.range 64).map g))):=by kernel_rfl
theorem zON(a:Int)(h:s.length=64)(H:Heap):(zpa P 90 1).f [(0,agg (int a::by8 s))] H=some (sl H.next 0 1 131,H.push (int a::by8 s)):=by
 obtain⟨g,rfl⟩:=zIt h
 exact ztM a g H
theorem zuM(g g':Nat→Int):(zAa P 97).f [(0,sec ((List.range 64).map g)),(1,sec ((List.range 64).map g'))]=some (agg (cel ⟨(List.range 64).map g,(List.range 64).map g',0⟩)):=by kernel_rfl
theorem zPN{s s':List Int}(h:s.length=64)(h':s'.length=64):(zAa P 97).f [(0,sec s),(1,sec s')]=some (agg (cel ⟨s,s',0⟩)):=by
 obtain⟨g,rfl⟩:=zIt h
 obtain⟨g',rfl⟩:=zIt h'
 exact zuM g g'
theorem zUK:zc P 123=int 0::by8 zeros:=by kernel_rfl
def Dv.upd(d:Dv)(a:Int)(c:Cell):Dv:={ d with cells:=d.cells.set a.toNat c }
def Dv.put(d:Dv)(a:Int)(s:List Int):Dv:={ d with cells:=d.cells.set a.toNat { d.cell a with seen:=s },done:=d.done++[(a.toNat,s)] }
theorem zQI{c:Cell}(ok:c.Ok)(h:s.length=64):cel { c with seen:=s }=(cel c).take 64++(by8 s++(cel c).drop (64+(by8 s).length)):=by
 unfold cel
 rw[List.take_left' (by rw[zta]; exact ok.k),← List.drop_drop,List.drop_left' (by rw[zta]; exact ok.k),List.drop_left' (by rw[zta,zta,ok.s,h])]
theorem zRI{c:Cell}(ok:c.Ok)(h:s.length=64):cel { c with kept:=s }=(cel c).take 0++(by8 s++(cel c).drop (0+(by8 s).length)):=by
 unfold cel
 rw[List.take_zero,List.nil_append,Nat.zero_add,List.drop_left' (by rw[zta,zta,ok.k,h])]
theorem zSI{c:Cell}(ok:c.Ok)(n:Int):cel { c with wear:=n }=(cel c).take 128++([int n]++(cel c).drop (128+[int n].length)):=by
 have e:cel c=(by8 c.kept++by8 c.seen)++[int c.wear]:=by simp[cel]
 have l:(by8 c.kept++by8 c.seen).length=128:=by simp[zta,ok.k,ok.s]
 rw[e,List.take_left' l,List.drop_of_length_le (by rw[List.length_append,l]; simp)]
 simp[cel]
theorem zwD(ok:∀ c ∈ d.cells,c.Ok)(h:d.has a)(hs:s.length=64):(zff d.cells).take (a.toNat * 129+64)++(by8 s++(zff d.cells).drop (a.toNat * 129+64+(by8 s).length))=zff (d.cells.set a.toNat { d.cell a with seen:=s }):=by
 obtain⟨hi,e⟩:=Dv.get h
 have hok:=Dv.cellOk ok h
 exact zel (fun c hc=>zCf (ok c hc)) hi (by rw[zta]; omega) (by rw[e]; exact zQI hok hs)
theorem zxD(ok:∀ c ∈ d.cells,c.Ok)(h:d.has a)(hs:s.length=64):(zff d.cells).take (a.toNat * 129+0)++(by8 s++(zff d.cells).drop (a.toNat * 129+0+(by8 s).length))=zff (d.cells.set a.toNat { d.cell a with kept:=s }):=by
 obtain⟨hi,e⟩:=Dv.get h
 have hok:=Dv.cellOk ok h
 exact zel (fun c hc=>zCf (ok c hc)) hi (by rw[zta]; omega) (by rw[e]; exact zRI hok hs)
theorem zTI(ok:∀ c ∈ d.cells,c.Ok)(h:d.has a)(n:Int):(zff d.cells).take (a.toNat * 129+128)++([int n]++(zff d.cells).drop (a.toNat * 129+128+1))=zff (d.cells.set a.toNat { d.cell a with wear:=n }):=by
 obtain⟨hi,e⟩:=Dv.get h
 have hok:=Dv.cellOk ok h
 exact zel (fun c hc=>zCf (ok c hc)) hi (by simp) (by rw[e]; exact zSI hok n)
theorem zoo(ok:∀ c ∈ d.cells,c.Ok)(h:d.has a):a.toNat * 129+129≤(zff d.cells).length:=by
 rw[zvD ok]
 have:=h.1; have:=h.2
 omega
theorem zyD(ok:d.Ok)(h:d.has a)(hs:s.length=64)(hd:d.done.length≤1000000)(hO:St H (Γ++DW pd pc vd d))(hv:zrE vd d)
  (hk:∀ H' vd',St H' (Γ++DW pd pc vd' (d.put a s))→zrE vd' (d.put a s)→K (.tuple [].toArray) H'):wCall P zmd [ptr pd 0,int a,sec s] H K:=by
 apply zMm; unfold zBj
 refine zxa hO ?_
 intro p5 H hO
 replace hO:St H ((Γ++[(p5,⟨by8 s,true⟩)])++DW pd pc vd d):=St.rot hO
 have i5:(Γ++[(p5,(⟨by8 s,true⟩:Blk))])[Γ.length+0]?=some (p5,⟨by8 s,true⟩):=zqa rfl
 have fin:∀ {H:Heap} {Δ:List (Nat × Blk)},St H ((Γ++[(p5,⟨by8 s,true⟩)])++Δ)→St H (Γ++Δ):=fun h=>St.mid h
 generalize Γ++[(p5,(⟨by8 s,true⟩:Blk))]=Γ' at hO i5 fin
 repeat refine oi ?_
 refine zha hO (Γ'.length+0) (zqa rfl) rfl ?_
 refine zia hO (Γ.length+0) (zza i5) (by rw[zta]; exact hs) (by omega) ?_
 refine zaa (zHa h.1 h.2) ?_
 repeat refine oi ?_
 rw[Nat.zero_add]
 refine zgc hO (Γ'.length+1) (zqa rfl) (show (by8 s).length=64 by rw[zta]; exact hs) (by have:=zoo ok.c h; show a.toNat * 129+64+64≤(zff d.cells).length; omega) (ztb s) ?_
 intro H hO
 have e1:(zff d.cells).take (a.toNat * 129+64)++(by8 s++(zff d.cells).drop (a.toNat * 129+64+64))=zff (d.upd a { d.cell a with seen:=s }).cells:=by
  have:=zwD ok.c h hs
  rw[zta,hs] at this; exact this
 have l1:(d.upd a { d.cell a with seen:=s }).cells.length=d.cells.length:=List.length_set
 replace hO:St H (Γ'++DW pd pc vd (d.upd a { d.cell a with seen:=s })):=by
  have h3:St H (Γ'++([(pd,⟨dv pc vd d,true⟩),(pc,⟨(zff d.cells).take (a.toNat * 129+64)++(by8 s++(zff d.cells).drop (a.toNat * 129+64+64)),true⟩)]++zGa vd (zkh d.done))):=hO.set_r
  have e2:dv pc vd d=dv pc vd (d.upd a { d.cell a with seen:=s }):=by unfold dv; rw[l1]; rfl
  rw[e1,e2] at h3
  exact h3
 repeat refine oi ?_
 refine zha hO (Γ'.length+0) (zqa rfl) rfl ?_
 refine zia hO (Γ.length+0) (zza i5) (by rw[zta]; exact hs) (by omega) ?_
 refine zaa (zEO a hs) ?_
 have hO':St H ((Γ'++[(pd,⟨dv pc vd (d.upd a { d.cell a with seen:=s }),true⟩),(pc,⟨zff (d.upd a { d.cell a with seen:=s }).cells,true⟩)])++zGa vd (zkh d.done)):=by
  rw[List.append_assoc]; exact hO
 refine zEa hO' (zON a hs _) ?_
 intro q H hO
 have ha:a=((a.toNat:Nat):Int):=by have:=h.1; omega
 refine zSc hO hv (by simp[zta,hs]) (by omega) (by simp[by8,oneCell]) (by omega) (by omega) ?_
 intro vd' H hO hv'
 rw[List.append_assoc] at hO
 repeat refine oi ?_
 obtain⟨a1,n1,c1,e1⟩:∃ a1 n1 c1,vd'=.slice a1 n1 c1:=by rcases hv' with⟨_,h,_⟩|⟨p,rfl|rfl,_⟩; omega; exact⟨_,_,_,rfl⟩; exact⟨_,_,_,rfl⟩
 refine zua hO (Γ'.length+0) (zqa rfl) (by rw[e1]; rfl) (show 1 < 5 by omega) rfl ?_
 intro H hO
 have ec:zkh d.done++(int a::by8 s)=zkh (d.put a s).done:=by
  show _=(d.done++[(a.toNat,s)]).flatMap chg
  rw[List.flatMap_append]
  show _=d.done.flatMap chg++(int ((a.toNat:Nat):Int)::by8 s++[])
  rw[← ha,List.append_nil]; rfl
 have h3:=fin hO.set_r
 rw[ec] at h3 hv'
 refine hk _ vd' h3 ?_
 show Own 65 vd' (d.done++[(a.toNat,s)]).length _
 rw[List.length_append]
 exact hv'
end J
set_option maxRecDepth 100000
namespace J
open Go Go.Ab
variable{H:Heap}{Γ:List (Nat × Blk)}{K:VH}{v w x:Value}{xs ys:List Int}{j p:Nat}{e:Int}
variable{pd pc:Nat}{vd:Value}{d:Dv}{a:Int}{s:List Int}
theorem Dv.step_ok(ok:d.Ok):d.step.Ok:=⟨ok.c,ok.n,ok.ds,ok.m,by
 have:=ok.b
 unfold Dv.step
 by_cases h:¬ (d.down=true∨d.budget=0)∧0 < d.budget
 ·rw[if_pos h]; have:=h.2; show -1≤d.budget - 1∧d.budget - 1≤_; omega
 ·rw[if_neg h]; exact this⟩
theorem zJg{l:List Cell}{i:Nat}{c:Cell}(h:∀ c ∈ l,c.Ok)(hc:c.Ok):∀ x ∈ l.set i c,x.Ok:=by
 intro x hx
 rcases List.mem_or_eq_of_mem_set hx with h'|h'
 ·exact h x h'
 ·rw[h']; exact hc
theorem Dv.upd_ok{c:Cell}(ok:d.Ok)(hc:c.Ok):(d.upd a c).Ok:=⟨zJg ok.c hc,by show (d.cells.set _ _).length≤_; rw[List.length_set]; exact ok.n,by
 intro x hx
 show x.1 < (d.cells.set _ _).length∧_
 rw[List.length_set]; exact ok.ds x hx,ok.m,ok.b⟩
theorem Dv.put_ok(ok:d.Ok)(h:d.has a)(hs:s.length=64):(d.put a s).Ok:=by
 have hc:=Dv.cellOk ok.c h
 refine⟨zJg ok.c ⟨hc.k,hs,hc.w⟩,by show (d.cells.set _ _).length≤_; rw[List.length_set]; exact ok.n,?_,ok.m,ok.b⟩
 intro x hx
 show x.1 < (d.cells.set _ _).length∧_
 rw[List.length_set]
 rcases List.mem_append.1 hx with hx|hx
 ·exact ok.ds x hx
 ·have:x=(a.toNat,s):=by simpa using hx
  subst this
  exact⟨by have:=h.1; have:=h.2; show a.toNat < _; omega,hs⟩
def Dv.erase(d:Dv)(a:Int):Dv × Int:=
 if ¬ d.has a then (d,61) else if d.down=true then (d,62) else if d.most≤(d.cell a).wear then (d,64) else if d.step.down=true then (d.step,62)
 else ((d.step.upd a { d.cell a with wear:=(d.cell a).wear+1 }).put a blank,0)
def Dv.program(d:Dv)(a:Int)(s:List Int):Dv × Int:=
 if ¬ d.has a then (d,61) else if d.down=true then (d,62) else if (d.cell a).seen≠blank then (d,63) else if d.step.down=true then (d.step,62)
 else (d.step.put a s,0)
theorem zJt:blank.length=64:=rfl
theorem Dv.upd_has{c:Cell}:(d.upd a c).has a↔d.has a:=by unfold Dv.has Dv.upd; simp
theorem Dv.erase_ok(ok:d.Ok):(d.erase a).1.Ok:=by
 unfold Dv.erase
 by_cases h:d.has a
 ·rw[if_neg (fun h'=>h' h)]
  split
  ·exact ok
  split
  ·exact ok
  split
  ·exact Dv.step_ok ok
  rename_i h1 h2 h3
  have hc:=Dv.cellOk ok.c h
  have hw:=hc.w
  have hm:=ok.m
  refine Dv.put_ok (Dv.upd_ok (Dv.step_ok ok) ⟨hc.k,hc.s,?_⟩) (Dv.upd_has.2 h) rfl
  show 0≤(d.cell a).wear+1∧(d.cell a).wear+1≤100000
  omega
 ·rw[if_pos h]; exact ok
theorem Dv.program_ok(ok:d.Ok)(hs:s.length=64):(d.program a s).1.Ok:=by
 unfold Dv.program
 by_cases h:d.has a
 ·rw[if_neg (fun h'=>h' h)]
  split
  ·exact ok
  split
  ·exact ok
  split
  ·exact Dv.step_ok ok
  exact Dv.put_ok (Dv.step_ok ok) h hs
 ·rw[if_pos h]; exact ok
theorem zKB(ok:d.Ok)(hO:St H (Γ++DW pd pc vd d))(hk:∀ H',St H' (Γ++DW pd pc vd d.step)→K (.bool !d.step.down) H'):wCall P zGb [ptr pd 0] H K:=by
 refine zAG ok.b hO (j:=Γ.length+0) (zqa rfl) ?_
 intro H' h
 exact hk H' h.set_r
set_option maxHeartbeats 1000000 in
theorem zLB(ok:d.Ok)(hd:d.done.length≤1000000)(hO:St H (Γ++DW pd pc vd d))(hv:zrE vd d)
  (hk:∀ H' vd',St H' (Γ++DW pd pc vd' (d.erase a).1)→zrE vd' (d.erase a).1→K (int (d.erase a).2) H'):wCall P zNd [ptr pd 0,int a] H K:=by
 apply zyk; unfold zyh
 unfold Dv.erase at hk
 refine zHt hO (zqa (k:=0) rfl) ?_ ?_
 ·intro h
  rw[if_neg (fun h'=>h' h)] at hk
  refine zaa (show (zsa P .eql 224 true).f _ _=some (.bool false) from rfl) ?_
  repeat (first|refine oi ?_|refine wf' ?_)
  refine zha hO (Γ.length+0) (zqa rfl) rfl ?_
  refine zLb (fun hb=>?_) (fun hb=>?_)
  ·rw[if_pos hb] at hk
   exact hk _ _ hO hv
  rw[if_neg (by rw[hb]; simp)] at hk
  repeat refine oi ?_
  refine zha hO (Γ.length+1) (zqa rfl) (zzG ok.c h) ?_
  repeat refine oi ?_
  refine zha hO (Γ.length+0) (zqa rfl) rfl ?_
  refine zaa zMg ?_
  refine zja (fun h1=>?_) (fun h1=>?_)
  ·rw[if_pos h1] at hk
   exact hk _ _ hO hv
  rw[if_neg h1] at hk
  refine zKB ok hO ?_
  clear hO
  intro H hO
  refine zaa zyc ?_
  rw[Bool.not_not]
  refine zLb (fun h2=>?_) (fun h2=>?_)
  ·rw[if_pos h2] at hk
   exact hk _ _ hO hv
  rw[if_neg (by rw[h2]; simp)] at hk
  have oks:=Dv.step_ok ok
  have hw:=(Dv.cellOk ok.c h).w
  repeat refine oi ?_
  refine zha hO (Γ.length+1) (zqa rfl) (zzG (d:=d.step) oks.c h) ?_
  refine zaa (zxb (by show _≤(d.cell a).wear+1; omega) (by show (d.cell a).wear+1≤_; omega)) ?_
  repeat refine oi ?_
  refine zgc hO (Γ.length+1) (zqa rfl) (show ([int ((d.cell a).wear+1)]:List Value).length=1 from rfl) (by have:=zoo oks.c (d:=d.step) h; show a.toNat * 129+128+1≤(zff d.step.cells).length; omega) rfl ?_
  clear hO
  intro H hO
  have e1:=zTI (d:=d.step) oks.c h ((d.cell a).wear+1)
  replace hO:St H (Γ++DW pd pc vd (d.step.upd a { d.cell a with wear:=(d.cell a).wear+1 })):=by
   have h3:St H (Γ++([(pd,⟨dv pc vd d.step,true⟩),(pc,⟨(zff d.step.cells).take (a.toNat * 129+128)++([int ((d.cell a).wear+1)]++(zff d.step.cells).drop (a.toNat * 129+128+1)),true⟩)]++zGa vd (zkh d.done))):=hO.set_r
   have e2:dv pc vd d.step=dv pc vd (d.step.upd a { d.cell a with wear:=(d.cell a).wear+1 }):=by
    unfold dv
    rw[show (d.step.upd a { d.cell a with wear:=(d.cell a).wear+1 }).cells.length=d.step.cells.length from List.length_set]; rfl
   rw[e1,e2] at h3
   exact h3
  have ok2:(d.step.upd a { d.cell a with wear:=(d.cell a).wear+1 }).Ok:=by
   have hc:=Dv.cellOk ok.c h
   have hm:=ok.m
   refine Dv.upd_ok oks ⟨hc.k,hc.s,?_⟩
   show 0≤(d.cell a).wear+1∧(d.cell a).wear+1≤100000
   omega
  refine zIg hO ?_
  clear hO
  intro H hO
  refine zyD ok2 (Dv.upd_has.2 h) rfl hd hO hv ?_
  clear hO
  intro H vd' hO hv'
  exact hk _ _ hO hv'
 ·intro h
  rw[if_pos h] at hk
  refine zaa (show (zsa P .eql 224 true).f _ _=some (.bool true) from rfl) ?_
  repeat refine wt ?_
  exact hk _ _ hO hv
set_option maxHeartbeats 1000000 in
theorem zCx(ok:d.Ok)(hs:s.length=64)(hd:d.done.length≤1000000)(hO:St H (Γ++DW pd pc vd d))(hv:zrE vd d)
  (hk:∀ H' vd',St H' (Γ++DW pd pc vd' (d.program a s).1)→zrE vd' (d.program a s).1→K (int (d.program a s).2) H'):wCall P zgd [ptr pd 0,int a,sec s] H K:=by
 apply zhj; unfold zrg
 unfold Dv.program at hk
 refine zxa hO ?_
 clear hO
 intro p5 H hO
 replace hO:St H ((Γ++[(p5,⟨by8 s,true⟩)])++DW pd pc vd d):=St.rot hO
 have i5:(Γ++[(p5,(⟨by8 s,true⟩:Blk))])[Γ.length+0]?=some (p5,⟨by8 s,true⟩):=zqa rfl
 have fin:∀ {H:Heap} {Δ:List (Nat × Blk)},St H ((Γ++[(p5,⟨by8 s,true⟩)])++Δ)→St H (Γ++Δ):=fun h=>St.mid h
 generalize Γ++[(p5,(⟨by8 s,true⟩:Blk))]=Γ' at hO i5 fin
 refine zHt hO (zqa (k:=0) rfl) ?_ ?_
 ·intro h
  rw[if_neg (fun h'=>h' h)] at hk
  refine zaa (show (zsa P .eql 224 true).f _ _=some (.bool false) from rfl) ?_
  repeat (first|refine oi ?_|refine wf' ?_)
  refine zha hO (Γ'.length+0) (zqa rfl) rfl ?_
  refine zLb (fun hb=>?_) (fun hb=>?_)
  ·rw[if_pos hb] at hk
   exact hk _ _ (fin hO) hv
  rw[if_neg (by rw[hb]; simp)] at hk
  repeat refine oi ?_
  refine zBa hO (Γ'.length+1) (zqa rfl) (zxG ok.c h) (by rw[zta]; exact (Dv.cellOk ok.c h).s) (by omega) ?_
  refine zIg hO ?_
  intro H2 hO2
  refine⟨zmb hO (Γ'.length+1) (zqa rfl) hO2 (Γ'.length+1) (zqa rfl) (zJB _),?_⟩
  refine zaa (neS _ (Dv.cellOk ok.c h).s rfl) ?_
  clear hO
  refine zja (fun h1=>?_) (fun h1=>?_)
  ·rw[if_pos h1] at hk
   exact hk _ _ (fin hO2) hv
  rw[if_neg h1] at hk
  refine zKB ok hO2 ?_
  clear hO2
  intro H hO
  refine zaa zyc ?_
  rw[Bool.not_not]
  refine zLb (fun h2=>?_) (fun h2=>?_)
  ·rw[if_pos h2] at hk
   exact hk _ _ (fin hO) hv
  rw[if_neg (by rw[h2]; simp)] at hk
  refine zia hO (Γ.length+0) (zza i5) (by rw[zta]; exact hs) (by omega) ?_
  refine zyD (Dv.step_ok ok) h hs hd hO hv ?_
  clear hO
  intro H vd' hO hv'
  exact hk _ _ (fin hO) hv'
 ·intro h
  rw[if_pos h] at hk
  refine zaa (show (zsa P .eql 224 true).f _ _=some (.bool true) from rfl) ?_
  repeat refine wt ?_
  exact hk _ _ (fin hO) hv
def Dv.limit(d:Dv)(n:Int):Dv:={ d with budget:=max n (-1) }
theorem zQz{n:Int}(hO:St H (Γ++DW pd pc vd d))(hk:∀ H',St H' (Γ++DW pd pc vd (d.limit n))→K (.tuple [].toArray) H'):wCall P zoc [ptr pd 0,int n] H K:=by
 apply zIj; unfold zTg
 repeat (first|refine oi ?_|refine ow ?_)
 refine zua hO (Γ.length+0) (zqa rfl) rfl (show 3 < 5 by omega) rfl ?_
 intro H hO
 exact hk _ hO.set_r
end J
set_option maxRecDepth 100000
namespace J
open Go Go.Ab
variable{H:Heap}{Γ:List (Nat × Blk)}{K:VH}{v w x:Value}{xs ys:List Int}{j p:Nat}{e:Int}
variable{pd pc:Nat}{vd:Value}{d:Dv}{a:Int}{s:List Int}
def zXu(cs:List Cell)(x:Nat × List Int):List Cell:=cs.set x.1 { cs.getD x.1 zQa with kept:=x.2 }
def zIa(cs:List Cell)(l:List (Nat × List Int)):List Cell:=l.foldl zXu cs
theorem zUI{cs:List Cell}{x:Nat × List Int}(h:∀ c ∈ cs,c.Ok)(hx:x.2.length=64)(hn:x.1 < cs.length):∀ c ∈ zXu cs x,c.Ok:=by
 refine zJg h ?_
 have:(cs.getD x.1 zQa).Ok:=by
  rw[List.getD_eq_getElem?_getD,List.getElem?_eq_getElem hn]; exact h _ (List.getElem_mem hn)
 exact⟨hx,this.s,this.w⟩
theorem zyd:∀ (l:List (Nat × List Int)) (cs:List Cell),(zIa cs l).length=cs.length
 | [],_=>rfl
 | x::l,cs=>by show (zIa (zXu cs x) l).length=_; rw[zyd l]; exact List.length_set
theorem zfl:∀ (l:List (Nat × List Int)) (cs:List Cell),(∀ c ∈ cs,c.Ok)→(∀ x ∈ l,x.1 < cs.length∧x.2.length=64)→∀ c ∈ zIa cs l,c.Ok
 | [],_,h,_=>h
 | x::l,cs,h,hl=>by
  have h1:=hl x List.mem_cons_self
  refine zfl l (zXu cs x) (zUI h h1.2 h1.1) ?_
  intro y hy
  show y.1 < (cs.set _ _).length∧_
  rw[List.length_set]
  exact hl y (List.mem_cons_of_mem _ hy)
theorem zEq{l:List (Nat × List Int)}{x:Nat × List Int}{cs:List Cell}:zIa cs (l++[x])=zXu (zIa cs l) x:=by simp[zIa]
def Dv.sync(d:Dv):Dv × Int:=if d.down=true then (d,62) else if d.step.down=true then (d.step,62) else ({ d.step with cells:=zIa d.cells d.done,done:=[] },0)
theorem Dv.sync_ok(ok:d.Ok):d.sync.1.Ok:=by
 unfold Dv.sync
 split
 ·exact ok
 split
 ·exact Dv.step_ok ok
 have oks:=Dv.step_ok ok
 refine⟨zfl _ _ ok.c ok.ds,by show (zIa _ _).length≤_; rw[zyd]; exact ok.n,?_,oks.m,oks.b⟩
 intro x hx
 cases hx
theorem zpp{vd:Value}{l:List (Nat × List Int)}(hv:Own 65 vd l.length (zkh l)){y:Nat}(h:y < l.length):∃ p c,vd=sl p 0 l.length c∧zGa vd (zkh l)=[(p,⟨zkh l,true⟩)]:=by
 rcases hv with⟨rfl,h0,_⟩|⟨p,rfl|rfl,_⟩
 ·omega
 ·exact⟨p,_,rfl,rfl⟩
 ·exact⟨p,_,rfl,rfl⟩
theorem zew{l:List (Nat × List Int)}(hl:∀ x ∈ l,x.2.length=64){y:Nat}(h:y < l.length):((zkh l).drop (y * 65)).take 65=chg l[y]:=by
 have:=zNm (f:=chg) (o:=0) (m:=65) (fun c hc=>zhe (hl c hc)) h (by omega)
 unfold zkh
 rw[Nat.add_zero] at this
 rw[this,List.drop_zero]
 exact List.take_of_length_le (Nat.le_of_eq (zhe (hl _ (List.getElem_mem h))))
theorem zBG{l:List Cell}{i:Nat}:l.getD i zQa=({ d with cells:=l }:Dv).cell (i:Int):=by
 unfold Dv.cell
 rw[Int.toNat_natCast]
set_option maxHeartbeats 1000000 in
theorem zuE(ok:d.Ok)(hd:d.done.length≤1000000)(hO:St H (Γ++DW pd pc vd d))(hv:zrE vd d)
  (hk:∀ H' vd',St H' (Γ++DW pd pc vd' d.sync.1)→zrE vd' d.sync.1→K (int d.sync.2) H'):wCall P zQc [ptr pd 0] H K:=by
 apply ztl; unfold zpi
 unfold Dv.sync at hk
 refine zwa (fun l' H'=>l'=[ptr pd 0,int 0]∧d.down=false∧d.step.down=false∧St H' (Γ++DW pd pc vd d.step)) ?_ ?_
 ·repeat refine oi ?_
  refine zha hO (Γ.length+0) (zqa rfl) rfl ?_
  cases hb:d.down with
  | true=>
   rw[if_pos hb] at hk
   repeat (first|refine oi ?_|refine wt ?_)
   exact hk _ _ hO hv
  | false=>
   rw[if_neg (by rw[hb]; simp)] at hk
   refine zFe rfl ?_
   refine zKB ok hO ?_
   clear hO
   intro H hO
   refine zaa zyc ?_
   refine zaa zRa ?_
   rw[Bool.not_not]
   refine zLb (fun h2=>?_) (fun h2=>?_)
   ·rw[if_pos h2] at hk
    exact hk _ _ hO hv
   ·exact⟨rfl,rfl,h2,hO⟩
 clear hO
 rintro l' H ⟨rfl,hb,h2,hO⟩
 rw[if_neg (by rw[hb]; simp),if_neg (by rw[h2]; simp)] at hk
 try simp only[zla,zma]
 repeat refine oi ?_
 refine zha hO (Γ.length+0) (zqa rfl) rfl ?_
 refine zDa hv.lenSl ?_
 have oks:=Dv.step_ok ok
 have hds:∀ x ∈ d.done,x.2.length=64:=fun x hx=>(ok.ds x hx).2
 refine zoi (fun k l' H'=>∃ y:Nat,y≤d.done.length∧k=d.done.length - y∧l'=[ptr pd 0,int 0,vd,int d.done.length,int y]∧St H' (Γ++DW pd pc vd { d.step with cells:=zIa d.cells (d.done.take y) })) _ _ ?_ d.done.length _ _ ⟨0,by omega,rfl,rfl,hO⟩
 clear hO
 rintro k l' H' ⟨y,hy,rfl,rfl,hO⟩
 unfold zqg
 try simp only[zla,zma]
 repeat refine oi ?_
 refine zja (fun h=>?_) (fun h=>?_)
 ·have hyl:y < d.done.length:=by omega
  obtain⟨p,c,e1,e2⟩:=zpp hv hyl
  have hx:=ok.ds _ (List.getElem_mem hyl)
  have i2:(DW pd pc vd { d.step with cells:=zIa d.cells (d.done.take y) })[2]?=some (p,⟨zkh d.done,true⟩):=by
   show ([_,_]++zGa vd (zkh d.done))[2]?=_
   rw[e2]; rfl
  rw[e1]
  refine zaa (zHa (by omega) (by omega)) ?_
  rw[show 0+((y:Nat):Int).toNat * 65=y * 65 by rw[Int.toNat_natCast]; omega]
  rw[← e1]
  refine zBa hO (Γ.length+2) (zqa i2) (zew hds hyl) (zhe hx.2) (by omega) ?_
  rw[zUK]
  refine zxa hO ?_
  clear hO
  intro p4 H hO
  refine zoa hO ((Γ++DW pd pc vd { d.step with cells:=zIa d.cells (d.done.take y) }).length+0) (zqa rfl) (by simp[zta,zeros]) (zhe hx.2) (zop _) ?_
  clear hO
  intro H hO
  replace hO:=St.rot hO.set_r
  replace hO:St H ((Γ++[(p4,⟨chg d.done[y],true⟩)])++DW pd pc vd { d.step with cells:=zIa d.cells (d.done.take y) }):=hO
  have i4:(Γ++[(p4,(⟨chg d.done[y],true⟩:Blk))])[Γ.length+0]?=some (p4,⟨chg d.done[y],true⟩):=zqa rfl
  have fin:∀ {H:Heap} {Δ:List (Nat × Blk)},St H ((Γ++[(p4,⟨chg d.done[y],true⟩)])++Δ)→St H (Γ++Δ):=fun h=>St.mid h
  generalize Γ++[(p4,(⟨chg d.done[y],true⟩:Blk))]=Γ' at hO i4 fin
  repeat refine oi ?_
  refine zha hO (Γ'.length+0) (zqa rfl) rfl ?_
  repeat refine oi ?_
  refine zha hO (Γ.length+0) (zza i4) rfl ?_
  repeat refine oi ?_
  refine zBa hO (Γ.length+0) (zza i4) (show ((chg d.done[y]).drop 1).take 64=by8 d.done[y].2 from ?_) (by rw[zta]; exact hx.2) (by omega) ?_
  ·show (by8 d.done[y].2).take 64=_
   exact List.take_of_length_le (by rw[zta,hx.2]; exact Nat.le_refl _)
  have hh:({ d.step with cells:=zIa d.cells (d.done.take y) }:Dv).has (d.done[y].1:Int):=⟨by omega,by
   show _ < ((zIa d.cells (d.done.take y)).length:Int)
   rw[zyd]; omega⟩
  have ok2:∀ c ∈ zIa d.cells (d.done.take y),c.Ok:=zfl _ _ ok.c (fun x hx=>ok.ds x (List.mem_of_mem_take hx))
  refine zaa (zHa hh.1 hh.2) ?_
  repeat refine oi ?_
  rw[Nat.zero_add]
  refine zgc hO (Γ'.length+1) (zqa rfl) (show (by8 d.done[y].2).length=64 by rw[zta]; exact hx.2) (by have:=zoo ok2 (d:={ d.step with cells:=zIa d.cells (d.done.take y) }) hh; show _≤(zff (zIa d.cells (d.done.take y))).length; simp only at this; omega) (ztb _) ?_
  clear hO
  intro H hO
  have e3:=zxD (d:={ d.step with cells:=zIa d.cells (d.done.take y) }) ok2 hh hx.2
  rw[zta,hx.2] at e3
  replace hO:St H (Γ'++DW pd pc vd { d.step with cells:=zIa d.cells (d.done.take (y+1)) }):=by
   have h3:St H (Γ'++([(pd,⟨dv pc vd { d.step with cells:=zIa d.cells (d.done.take y) },true⟩),(pc,⟨(zff (zIa d.cells (d.done.take y))).take ((d.done[y].1:Int).toNat * 129+0)++(by8 d.done[y].2++(zff (zIa d.cells (d.done.take y))).drop ((d.done[y].1:Int).toNat * 129+0+64)),true⟩)]++zGa vd (zkh d.done))):=hO.set_r
   rw[e3] at h3
   have e4:zIa d.cells (d.done.take (y+1))=(zIa d.cells (d.done.take y)).set (d.done[y].1:Int).toNat { ({ d.step with cells:=zIa d.cells (d.done.take y) }:Dv).cell (d.done[y].1:Int) with kept:=d.done[y].2 }:=by
    rw[List.take_succ_eq_append_getElem hyl,zEq]
    unfold zXu
    rw[zBG (d:=d.step),Int.toNat_natCast]
   show St H (Γ'++([(pd,⟨[sl pc 0 (zIa d.cells (d.done.take (y+1))).length 259,vd,int d.step.most,int d.step.budget,.bool d.step.down],true⟩),(pc,⟨zff (zIa d.cells (d.done.take (y+1))),true⟩)]++zGa vd (zkh d.done)))
   rw[zyd,e4]
   have h4:St H (Γ'++([(pd,⟨[sl pc 0 (zIa d.cells (d.done.take y)).length 259,vd,int d.step.most,int d.step.budget,.bool d.step.down],true⟩),(pc,⟨zff ((zIa d.cells (d.done.take y)).set (d.done[y].1:Int).toNat { ({ d.step with cells:=zIa d.cells (d.done.take y) }:Dv).cell (d.done[y].1:Int) with kept:=d.done[y].2 }),true⟩)]++zGa vd (zkh d.done))):=h3
   rw[zyd] at h4
   exact h4
  repeat refine oi ?_
  exact⟨_,by omega,y+1,by omega,rfl,rfl,fin hO⟩
 ·have ey:y=d.done.length:=by omega
  subst ey
  repeat refine oi ?_
  refine zua hO (Γ.length+0) (zqa rfl) rfl (show 1 < 5 by omega) rfl ?_
  clear hO
  intro H hO
  rw[List.take_length] at hO
  refine hk _ zya ?_ (.inl ⟨rfl,rfl,rfl⟩)
  have h3:St H (Γ++([(pd,⟨dv pc zya { d.step with cells:=zIa d.cells d.done,done:=[] },true⟩),(pc,⟨zff (zIa d.cells d.done),true⟩)]++zGa vd (zkh d.done))):=hO.set_r
  exact h3.sub (List.Sublist.append (List.Sublist.refl _) (List.Sublist.append (List.Sublist.refl _) (List.nil_sublist _)))
end J
set_option maxRecDepth 100000
namespace J
open Go Go.Ab
variable{H:Heap}{Γ:List (Nat × Blk)}{K:VH}{v w x:Value}{xs ys:List Int}{j p:Nat}{e:Int}
variable{pd pc:Nat}{vd:Value}{d:Dv}{a:Int}{s:List Int}
theorem zCG[lp:LpC]{o n c i q:Nat}{cs:List Value}{K:VH}(hO:St H Γ)(hi:Γ[i]?=some (q,⟨cs,true⟩))(hv:RdB Γ v ys)(hn:ys.length≤n)(hl:o+n≤cs.length)
  (hk:∀ H',St H' (Γ.set i (q,⟨cs.take o++(by8 ys++cs.drop (o+ys.length)),true⟩))→K (int ys.length) H'):opW (znj 1 (sl q o n c) v H) K:=by
 obtain⟨H',hw,hs⟩:=zSw hO (o:=o) (vs:=by8 ys) hi (by simp; omega) (by simp[oneCell])
 unfold znj
 simp only[hv.lenA]
 have hm:Nat.min ys.length n=ys.length:=Nat.min_eq_left hn
 rw[hm]
 by_cases h0:ys.length=0
 ·have:ys=[]:=List.length_eq_zero_iff.1 h0
  subst this
  refine zDa (show some (Value.int .i64 0,H)=_ from rfl) ?_
  have hk:=hk H
  rw[show cs.take o++(by8 []++cs.drop (o+([]:List Int).length))=cs by simp[by8],zKr hi] at hk
  exact hk hO
 ·have hb:Nat.beq ys.length 0=false:=by
   cases hb:Nat.beq ys.length 0 with
   | false=>rfl
   | true=>exact absurd (Nat.eq_of_beq_eq_true hb) h0
  rw[hb]
  simp only[Bool.false_eq_true,if_false]
  rw[hv.elems hO]
  simp only
  rw[hw]
  refine zDa (show some (Value.int .i64 ((ys.length:Nat):Int),H')=_ from rfl) ?_
  rw[List.length_map] at hs
  exact hk _ hs
theorem zqp{p o n:Nat}{b:Blk}{h:Int}(hO:St H Γ)(i:Nat)(hi:Γ[i]?=some (p,b))(hp:0 < n)(hn:o+n≤b.cells.length)(h0:0≤h)(h1:h≤n):∃ c,zmc n 1 (ptr p o) none (some (int h)) none H=some (sl p o h.toNat c)∧(c=2∨c=3):=by
 obtain⟨m,rfl⟩:∃ m:Nat,h=m:=⟨h.toNat,by omega⟩
 have hb:zpc n (some (int (m:Int)))=some m:=by
  show (match leB 0 (m:Int) with|true=>(match Nat.ble (m:Int).toNat n with|true=>some (m:Int).toNat|false=>none)|false=>none)=_
  rw[zhc,decide_eq_true (by omega)]
  simp only[Int.toNat_natCast]
  rw[Nat.ble_eq_true_of_le (by omega)]
 refine⟨cond (Nat.beq m n) 3 2,?_,by cases Nat.beq m n <;> simp⟩
 unfold zmc
 simp only[hO.at i hi (.inr (by intro h; rw[h] at hn; simp at hn; omega)),zSa]
 rw[Nat.ble_eq_true_of_le (by omega)]
 simp only[hb]
 simp[zdd,zGj,zqc]
def zrp(cs:List Cell)(x:Nat × List Int)(k:Int):List Cell:=cs.set x.1 { cs.getD x.1 zQa with kept:=x.2.take (min k.toNat 64)++(cs.getD x.1 zQa).kept.drop (min k.toNat 64) }
def znb(cs:List Cell)(l:List ((Nat × List Int) × Int)):List Cell:=l.foldl (fun cs z=>zrp cs z.1 z.2) cs
def zHA(cs:List Cell)(x:Nat × List Int):List Cell:=cs.set x.1 { cs.getD x.1 zQa with seen:=(cs.getD x.1 zQa).kept }
def zYb(cs:List Cell)(l:List (Nat × List Int)):List Cell:=l.foldl zHA cs
theorem zKt{cs:List Cell}{x:Nat × List Int}{k:Int}:(zrp cs x k).length=cs.length:=List.length_set
theorem zDx{cs:List Cell}{x:Nat × List Int}:(zHA cs x).length=cs.length:=List.length_set
theorem zec:∀ (l:List ((Nat × List Int) × Int)) (cs:List Cell),(znb cs l).length=cs.length
 | [],_=>rfl
 | x::l,cs=>by show (znb (zrp cs x.1 x.2) l).length=_; rw[zec l,zKt]
theorem zse:∀ (l:List (Nat × List Int)) (cs:List Cell),(zYb cs l).length=cs.length
 | [],_=>rfl
 | x::l,cs=>by show (zYb (zHA cs x) l).length=_; rw[zse l,zDx]
theorem zsp{cs:List Cell}{n:Nat}(h:∀ c ∈ cs,c.Ok)(hn:n < cs.length):(cs.getD n zQa).Ok:=by
 rw[List.getD_eq_getElem?_getD,List.getElem?_eq_getElem hn]; exact h _ (List.getElem_mem hn)
theorem zVI{cs:List Cell}{x:Nat × List Int}{k:Int}(h:∀ c ∈ cs,c.Ok)(hx:x.1 < cs.length∧x.2.length=64):∀ c ∈ zrp cs x k,c.Ok:=by
 have:=zsp h hx.1
 refine zJg h ⟨?_,this.s,this.w⟩
 show (x.2.take _++(List.drop _ _)).length=64
 rw[List.length_append,List.length_take,List.length_drop,this.k,hx.2]; omega
theorem zVK{cs:List Cell}{x:Nat × List Int}(h:∀ c ∈ cs,c.Ok)(hx:x.1 < cs.length):∀ c ∈ zHA cs x,c.Ok:=by
 have:=zsp h hx
 exact zJg h ⟨this.k,this.k,this.w⟩
theorem zui:∀ (l:List ((Nat × List Int) × Int)) (cs:List Cell),(∀ c ∈ cs,c.Ok)→(∀ x ∈ l,x.1.1 < cs.length∧x.1.2.length=64)→∀ c ∈ znb cs l,c.Ok
 | [],_,h,_=>h
 | x::l,cs,h,hl=>zui l (zrp cs x.1 x.2) (zVI h (hl x List.mem_cons_self)) (by
   intro y hy
   rw[zKt]
   exact hl y (List.mem_cons_of_mem _ hy))
theorem zLt:∀ (l:List (Nat × List Int)) (cs:List Cell),(∀ c ∈ cs,c.Ok)→(∀ x ∈ l,x.1 < cs.length)→∀ c ∈ zYb cs l,c.Ok
 | [],_,h,_=>h
 | x::l,cs,h,hl=>zLt l (zHA cs x) (zVK h (hl x List.mem_cons_self)) (by
   intro y hy
   rw[zDx]
   exact hl y (List.mem_cons_of_mem _ hy))
def Dv.restart(d:Dv)(ks:List Int):Dv:={ d with cells:=zYb (znb d.cells (d.done.zip ks)) d.done,done:=[],budget:=-1,down:=false }
theorem zzD{l:List (Nat × List Int)}{ks:List Int}{n:Nat}(h:∀ x ∈ l,x.1 < n∧x.2.length=64):∀ x ∈ l.zip ks,x.1.1 < n∧x.1.2.length=64:=fun x hx=>h x.1 (List.of_mem_zip hx).1
theorem Dv.restart_ok(ok:d.Ok)(ks:List Int):(d.restart ks).Ok:=by
 have h1:=zui _ _ ok.c (zzD (ks:=ks) ok.ds)
 refine⟨zLt _ _ h1 (fun x hx=>by rw[zec]; exact (ok.ds x hx).1),by show (zYb _ _).length≤_; rw[zse,zec]; exact ok.n,?_,ok.m,?_⟩
 ·intro x hx; cases hx
 ·show -1≤(-1:Int)∧(-1:Int)≤_; omega
theorem zEx{Γ':List (Nat × Blk)}{d d':Dv}{cs:List Value}(hO:St H ((Γ'++DW pd pc vd d).set (Γ'.length+1) (pc,⟨cs,true⟩)))(hc:cs=zff d'.cells)(hl:d'.cells.length=d.cells.length)(h1:d'.done=d.done)(h2:d'.most=d.most)(h3:d'.budget=d.budget)(h4:d'.down=d.down):St H (Γ'++DW pd pc vd d'):=by
 have h5:St H (Γ'++([(pd,⟨dv pc vd d,true⟩),(pc,⟨cs,true⟩)]++zGa vd (zkh d.done))):=hO.set_r
 have e:dv pc vd d=dv pc vd d':=by unfold dv; rw[hl,h2,h3,h4]
 rw[hc,e,← h1] at h5
 exact h5
set_option maxHeartbeats 2000000 in
theorem zFx{ks:List Int}(ok:d.Ok)(hd:d.done.length≤1000000)(hO:St H (Γ++DW pd pc vd d))(hv:zrE vd d)(hw:RdB Γ w ks)(hb:∀ k ∈ ks,0≤k∧k≤255)
  (hk:∀ H',St H' (Γ++DW pd pc zya (d.restart ks))→K (.tuple [].toArray) H'):wCall P zqb [ptr pd 0,w] H K:=by
 apply zdj; unfold zjg
 repeat refine oi ?_
 refine zha hO (Γ.length+0) (zqa rfl) rfl ?_
 refine zDa hv.lenSl ?_
 have hds:∀ x ∈ d.done,x.2.length=64:=fun x hx=>(ok.ds x hx).2
 have hz:=zzD (ks:=ks) ok.ds
 refine zUg (fun k l' H'=>∃ y:Nat,y≤d.done.length∧k=d.done.length - y∧l'=[ptr pd 0,w,vd,int d.done.length,int y]∧St H' (Γ++DW pd pc vd { d with cells:=znb d.cells ((d.done.zip ks).take y) })) _ _ ?_ d.done.length _ _ ⟨0,by omega,rfl,rfl,hO⟩
 clear hO
 rintro k l' H' ⟨y,hy,rfl,rfl,hO⟩
 unfold zYe
 try simp only[zla,zma]
 repeat refine oi ?_
 refine zja (fun h=>?_) (fun h=>?_)
 ·have hyl:y < d.done.length:=by omega
  obtain⟨p,c,e1,e2⟩:=zpp hv hyl
  have hx:=ok.ds _ (List.getElem_mem hyl)
  generalize hD:({ d with cells:=znb d.cells ((d.done.zip ks).take y) }:Dv)=D at *
  have hDd:D.done=d.done:=by rw[← hD]
  have hDc:D.cells=znb d.cells ((d.done.zip ks).take y):=by rw[← hD]
  have i2:(DW pd pc vd D)[2]?=some (p,⟨zkh d.done,true⟩):=by
   show ([_,_]++zGa vd (zkh D.done))[2]?=_
   rw[hDd,e2]; rfl
  rw[e1]
  refine zaa (zHa (by omega) (by omega)) ?_
  rw[show 0+((y:Nat):Int).toNat * 65=y * 65 by rw[Int.toNat_natCast]; omega]
  rw[← e1]
  refine zBa hO (Γ.length+2) (zqa i2) (zew hds hyl) (zhe hx.2) (by omega) ?_
  rw[zUK]
  refine zxa hO ?_
  clear hO
  intro p4 H hO
  refine zoa hO ((Γ++DW pd pc vd D).length+0) (zqa rfl) (by simp[zta,zeros]) (zhe hx.2) (zop _) ?_
  clear hO
  intro H hO
  replace hO:=St.rot hO.set_r
  replace hO:St H ((Γ++[(p4,⟨chg d.done[y],true⟩)])++DW pd pc vd D):=hO
  have i4:(Γ++[(p4,(⟨chg d.done[y],true⟩:Blk))])[Γ.length+0]?=some (p4,⟨chg d.done[y],true⟩):=zqa rfl
  have fin:∀ {H:Heap} {Δ:List (Nat × Blk)},St H ((Γ++[(p4,⟨chg d.done[y],true⟩)])++Δ)→St H (Γ++Δ):=fun h=>St.mid h
  have hw':=hw.app (Δ:=[(p4,(⟨chg d.done[y],true⟩:Blk))])
  generalize Γ++[(p4,(⟨chg d.done[y],true⟩:Blk))]=Γ' at hO i4 fin hw'
  refine zDa hw.lenSl ?_
  repeat refine oi ?_
  refine zja (fun h2=>?_) (fun h2=>?_)
  ·have hyk:y < ks.length:=by omega
   have hkb:=hb _ (List.getElem_mem hyk)
   have hyz:y < (d.done.zip ks).length:=by rw[List.length_zip]; omega
   obtain⟨p6,o6,c6,j6,b6,rfl,h61,h62⟩:=hw'.at hyk
   refine zaa (zHa (by omega) (by omega)) ?_
   refine zha hO j6 (zza h61) (v:=.int .u8 ks[y]) (by simpa using h62) ?_
   refine zDa (zeg (by omega) (by omega)) ?_
   repeat (first|refine oi ?_|refine ow ?_)
   refine zha hO (Γ'.length+0) (zqa rfl) rfl ?_
   repeat refine oi ?_
   refine zha hO (Γ.length+0) (zza i4) rfl ?_
   have hh:D.has (d.done[y].1:Int):=⟨by omega,by rw[hDc,zec]; omega⟩
   have ok2:∀ c ∈ D.cells,c.Ok:=by rw[hDc]; exact zui _ _ ok.c (fun x hx=>hz x (List.mem_of_mem_take hx))
   have hcl:=zoo ok2 hh
   refine zaa (zHa hh.1 hh.2) ?_
   repeat refine oi ?_
   rw[Nat.zero_add]
   have hm:(min ks[y] 64).toNat=min ks[y].toNat 64:=by omega
   obtain⟨c1,e3,_⟩:=zqp (n:=64) (p:=pc) (o:=(d.done[y].1:Int).toNat * 129+0) (h:=min ks[y] 64) hO (Γ'.length+1) (zqa rfl) (by omega) (by show _≤(zff D.cells).length; omega) (by omega) (by omega)
   refine zaa e3 ?_
   refine zaa zga ?_
   obtain⟨c2,e4,hc2⟩:=zqp (n:=64) (p:=p4) (o:=0+1) (h:=min ks[y] 64) hO (Γ.length+0) (zza i4) (by omega) (by show _≤(chg d.done[y]).length; rw[zhe hx.2]; omega) (by omega) (by omega)
   refine zaa e4 ?_
   have hr:RdB (Γ'++DW pd pc vd D) (sl p4 (0+1) (min ks[y] 64).toNat c2) (d.done[y].2.take (min ks[y].toNat 64)):=by
    refine .inr ⟨p4,0+1,c2,?_,hc2,.inr ⟨Γ.length+0,⟨chg d.done[y],true⟩,zza i4,?_⟩⟩
    ·rw[List.length_take,hx.2,hm]; congr 1; omega
    ·show ((by8 d.done[y].2).take _)=_
     rw[List.length_take,hx.2,show min (min ks[y].toNat 64) 64=min ks[y].toNat 64 by omega]
     simp[by8,List.map_take]
   have hl2:(d.done[y].2.take (min ks[y].toNat 64)).length=min ks[y].toNat 64:=by rw[List.length_take,hx.2]; omega
   refine zCG hO (i:=Γ'.length+1) (zqa rfl) hr (by rw[hl2,hm]; exact Nat.le_refl _) (by show _≤(zff D.cells).length; omega) ?_
   clear hO
   intro H hO
   rw[hl2] at hO
   repeat refine oi ?_
   refine⟨_,by omega,y+1,by omega,rfl,rfl,fin (zEx hO ?_ ?_ ?_ ?_ ?_ ?_)⟩
   ·show _=zff (znb d.cells ((d.done.zip ks).take (y+1)))
    rw[List.take_succ_eq_append_getElem hyz]
    unfold znb
    rw[List.foldl_append]
    show _=zff (zrp (znb d.cells ((d.done.zip ks).take y)) ((d.done.zip ks)[y]).1 ((d.done.zip ks)[y]).2)
    rw[List.getElem_zip,← hDc]
    show _=zff (zrp D.cells d.done[y] ks[y])
    unfold zrp
    rw[show D.cells.getD d.done[y].1 zQa=D.cell (d.done[y].1:Int) by unfold Dv.cell; rw[Int.toNat_natCast]]
    have hck:=Dv.cellOk ok2 hh
    have e5:=zxD (d:=D) (s:=d.done[y].2.take (min ks[y].toNat 64)++(D.cell (d.done[y].1:Int)).kept.drop (min ks[y].toNat 64)) ok2 hh (by rw[List.length_append,hl2,List.length_drop,hck.k]; omega)
    have e6:(d.done[y].1:Int).toNat=d.done[y].1:=Int.toNat_natCast _
    rw[e6] at e5 ⊢
    rw[← e5]
    congr 1
    have e7:=zyG ok2 hh
    rw[e6] at e7
    rw[zta,List.length_append,hl2,List.length_drop,hck.k]
    have e8:by8 (d.done[y].2.take (min ks[y].toNat 64)++(D.cell (d.done[y].1:Int)).kept.drop (min ks[y].toNat 64))=by8 (d.done[y].2.take (min ks[y].toNat 64))++(by8 (D.cell (d.done[y].1:Int)).kept).drop (min ks[y].toNat 64):=by simp[by8,List.map_drop]
    rw[e8,List.append_assoc]
    congr 1
    rw[← e7,List.drop_take]
    rw[List.drop_drop]
    generalize hq:d.done[y].1 * 129+0=q
    have e9:(zff D.cells).drop (q+min ks[y].toNat 64)=((zff D.cells).drop (q+min ks[y].toNat 64)).take (64 - min ks[y].toNat 64)++(zff D.cells).drop (q+(min ks[y].toNat 64+(64 - min ks[y].toNat 64))):=by
     conv=>lhs; rw[← List.take_append_drop (64 - min ks[y].toNat 64) ((zff D.cells).drop (q+min ks[y].toNat 64))]
     rw[List.drop_drop,Nat.add_assoc]
    exact e9
   ·show (znb _ _).length=_
    rw[hDc,zec,zec]
   ·exact hDd.symm
   ·rw[← hD]
   ·rw[← hD]
   ·rw[← hD]
  ·have hyk:¬ y < ks.length:=by omega
   repeat refine oi ?_
   refine⟨_,by omega,y+1,by omega,rfl,rfl,fin ?_⟩
   have e5:(d.done.zip ks).take (y+1)=(d.done.zip ks).take y:=by
    rw[List.take_of_length_le (by rw[List.length_zip]; omega),List.take_of_length_le (by rw[List.length_zip]; omega)]
   rw[e5,hD]
   exact hO
 ·have ey:y=d.done.length:=by omega
  subst ey
  rw[List.take_of_length_le (by rw[List.length_zip]; omega)] at hO
  repeat refine oi ?_
  generalize hC:znb d.cells (d.done.zip ks)=C at *
  have okC:∀ c ∈ C,c.Ok:=by rw[← hC]; exact zui _ _ ok.c hz
  have hCl:C.length=d.cells.length:=by rw[← hC,zec]
  refine zha hO (Γ.length+0) (zqa rfl) rfl ?_
  refine zDa hv.lenSl ?_
  refine zVg (fun k l' H'=>∃ y:Nat,y≤d.done.length∧k=d.done.length - y∧l'=[ptr pd 0,vd,int d.done.length,int y]∧St H' (Γ++DW pd pc vd { d with cells:=zYb C (d.done.take y) })) _ _ ?_ d.done.length _ _ ⟨0,by omega,rfl,rfl,hO⟩
  clear hO
  rintro k l' H' ⟨y,hy,rfl,rfl,hO⟩
  unfold zZe
  try simp only[zla,zma]
  repeat refine oi ?_
  refine zja (fun h=>?_) (fun h=>?_)
  ·have hyl:y < d.done.length:=by omega
   obtain⟨p,c,e1,e2⟩:=zpp hv hyl
   have hx:=ok.ds _ (List.getElem_mem hyl)
   generalize hD:({ d with cells:=zYb C (d.done.take y) }:Dv)=D at *
   have hDd:D.done=d.done:=by rw[← hD]
   have hDc:D.cells=zYb C (d.done.take y):=by rw[← hD]
   have i2:(DW pd pc vd D)[2]?=some (p,⟨zkh d.done,true⟩):=by
    show ([_,_]++zGa vd (zkh D.done))[2]?=_
    rw[hDd,e2]; rfl
   rw[e1]
   refine zaa (zHa (by omega) (by omega)) ?_
   rw[show 0+((y:Nat):Int).toNat * 65=y * 65 by rw[Int.toNat_natCast]; omega]
   rw[← e1]
   refine zBa hO (Γ.length+2) (zqa i2) (zew hds hyl) (zhe hx.2) (by omega) ?_
   rw[zUK]
   refine zxa hO ?_
   clear hO
   intro p4 H hO
   refine zoa hO ((Γ++DW pd pc vd D).length+0) (zqa rfl) (by simp[zta,zeros]) (zhe hx.2) (zop _) ?_
   clear hO
   intro H hO
   replace hO:=St.rot hO.set_r
   replace hO:St H ((Γ++[(p4,⟨chg d.done[y],true⟩)])++DW pd pc vd D):=hO
   have i4:(Γ++[(p4,(⟨chg d.done[y],true⟩:Blk))])[Γ.length+0]?=some (p4,⟨chg d.done[y],true⟩):=zqa rfl
   have fin:∀ {H:Heap} {Δ:List (Nat × Blk)},St H ((Γ++[(p4,⟨chg d.done[y],true⟩)])++Δ)→St H (Γ++Δ):=fun h=>St.mid h
   generalize Γ++[(p4,(⟨chg d.done[y],true⟩:Blk))]=Γ' at hO i4 fin
   repeat refine oi ?_
   refine zha hO (Γ'.length+0) (zqa rfl) rfl ?_
   repeat refine oi ?_
   refine zha hO (Γ.length+0) (zza i4) rfl ?_
   repeat refine oi ?_
   refine zha hO (Γ'.length+0) (zqa rfl) rfl ?_
   repeat refine oi ?_
   refine zha hO (Γ.length+0) (zza i4) rfl ?_
   have hh:D.has (d.done[y].1:Int):=⟨by omega,by rw[hDc,zse,hCl]; omega⟩
   have ok2:∀ c ∈ D.cells,c.Ok:=by rw[hDc]; exact zLt _ _ okC (fun x hx=>by rw[hCl]; exact (ok.ds x (List.mem_of_mem_take hx)).1)
   have hcl:=zoo ok2 hh
   have hck:=Dv.cellOk ok2 hh
   refine zaa (zHa hh.1 hh.2) ?_
   refine zaa zga ?_
   rw[Nat.zero_add]
   refine zBa hO (Γ'.length+1) (zqa rfl) (zyG ok2 hh) (by rw[zta]; exact hck.k) (by omega) ?_
   refine zaa (zHa hh.1 hh.2) ?_
   refine zaa zga ?_
   rw[Nat.zero_add]
   refine zgc hO (Γ'.length+1) (zqa rfl) (show (by8 (D.cell (d.done[y].1:Int)).kept).length=64 by rw[zta]; exact hck.k) (by show _≤(zff D.cells).length; omega) (ztb _) ?_
   clear hO
   intro H hO
   have e3:=zwD (d:=D) ok2 hh hck.k
   rw[zta,hck.k] at e3
   repeat refine oi ?_
   refine⟨_,by omega,y+1,by omega,rfl,rfl,fin (zEx hO ?_ ?_ ?_ ?_ ?_ ?_)⟩
   ·refine e3.trans ?_
    show _=zff (zYb C (d.done.take (y+1)))
    rw[List.take_succ_eq_append_getElem hyl]
    unfold zYb
    rw[List.foldl_append]
    show _=zff (zHA (zYb C (d.done.take y)) d.done[y])
    rw[← hDc]
    unfold zHA
    rw[show D.cells.getD d.done[y].1 zQa=D.cell (d.done[y].1:Int) by unfold Dv.cell; rw[Int.toNat_natCast],Int.toNat_natCast]
   ·show (zYb _ _).length=_
    rw[hDc,zse,zse]
   ·exact hDd.symm
   ·rw[← hD]
   ·rw[← hD]
   ·rw[← hD]
  ·have ey:y=d.done.length:=by omega
   subst ey
   rw[List.take_length] at hO
   repeat refine oi ?_
   refine zua hO (Γ.length+0) (zqa rfl) rfl (show 1 < 5 by omega) rfl ?_
   clear hO
   intro H hO
   replace hO:St H (Γ++([(pd,⟨dv pc zya { d with cells:=zYb C d.done },true⟩),(pc,⟨zff (zYb C d.done),true⟩)]++zGa vd (zkh d.done))):=hO.set_r
   repeat refine oi ?_
   refine zua hO (Γ.length+0) (zqa rfl) rfl (show 3 < 5 by omega) rfl ?_
   clear hO
   intro H hO
   replace hO:St H (Γ++([(pd,⟨dv pc zya { d with cells:=zYb C d.done,budget:=-1 },true⟩),(pc,⟨zff (zYb C d.done),true⟩)]++zGa vd (zkh d.done))):=hO.set_r
   repeat refine oi ?_
   refine zua hO (Γ.length+0) (zqa rfl) rfl (show 4 < 5 by omega) rfl ?_
   clear hO
   intro H hO
   replace hO:St H (Γ++([(pd,⟨dv pc zya { d with cells:=zYb C d.done,budget:=-1,down:=false },true⟩),(pc,⟨zff (zYb C d.done),true⟩)]++zGa vd (zkh d.done))):=hO.set_r
   refine hk _ ?_
   unfold Dv.restart
   rw[hC]
   exact hO.sub (List.Sublist.append (List.Sublist.refl _) (List.Sublist.append (List.Sublist.refl _) (List.nil_sublist _)))
end J
set_option maxRecDepth 100000
namespace J
open Go Go.Ab
variable{H:Heap}{Γ:List (Nat × Blk)}{K:VH}{v w x:Value}{xs ys:List Int}{j p:Nat}{e:Int}
variable{pd pc:Nat}{vd:Value}{d:Dv}{a:Int}{s:List Int}
theorem zWK:zlc P 89=⟨zzl 129 136 (cel zQa)⟩:=by kernel_rfl
theorem zzk{α:Type}(f:α→List Value)(z:α):∀ n:Nat,repl n (f z)=(List.replicate n z).flatMap f
 | 0=>rfl
 | n+1=>by
  show zMj (f z) (repl n (f z))=_
  rw[zrb,zzk f z n,List.replicate_succ,List.flatMap_cons]
theorem zFO(n:Nat)(pc:Nat)(w:Int):(zAa P 92).f [(0,sl pc 0 n 259),(2,int w),(3,.int .i64 (-1))]=some (agg [sl pc 0 n 259,zya,int w,int (-1),.bool false]):=by kernel_rfl
def zlf:Cell:=⟨blank,blank,0⟩
def Dv.new(n:Nat)(w:Int):Dv:=⟨List.replicate n zlf,[],w,-1,false⟩
theorem zWI:zQa.Ok:=⟨rfl,rfl,by decide⟩
theorem zvi:zlf.Ok:=⟨rfl,rfl,by decide⟩
theorem Dv.new_ok{n:Nat}{w:Int}(hn:n≤4096)(hw:w≤100000):(Dv.new n w).Ok:=by
 refine⟨fun c hc=>?_,by show (List.replicate n _).length≤_; rw[List.length_replicate]; exact hn,fun x hx=>(by cases hx),hw,by show -1≤(-1:Int)∧(-1:Int)≤_; omega⟩
 rw[(List.mem_replicate.1 hc).2]; exact zvi
set_option maxHeartbeats 1000000 in
theorem zDG{n w:Nat}(hn:n≤4096)(hw:w≤100000)(hO:St H Γ)(hk:∀ H' pd pc,St H' (Γ++DW pd pc zya (Dv.new n w))→K (ptr pd 0) H'):wCall P zJi [int n,int w] H K:=by
 apply zWy; unfold zVy
 refine zDa zfG ?_
 refine zDa zGK ?_
 rw[show max (0:Int) (min (n:Int) 4096)=n by omega,zWK]
 refine zwB (k:=.i64) (k':=.i64) hO (by omega) (by omega) ?_
 clear hO
 intro pc H hO
 refine zDa zfG ?_
 refine zDa zGK ?_
 rw[show max (0:Int) (min (w:Int) 100000)=w by omega]
 refine zaa (zFO n pc w) ?_
 refine zxa hO ?_
 clear hO
 intro pd H hO
 repeat refine oi ?_
 refine zha hO ((Γ++[(pc,(⟨repl n (cel zQa),true⟩:Blk))]).length+0) (zqa rfl) rfl ?_
 repeat refine ow ?_
 rw[zzk] at hO
 replace hO:St H (Γ++DW pd pc zya { Dv.new n w with cells:=List.replicate n zQa }):=by
  have h3:St H ((Γ++[(pc,⟨zff (List.replicate n zQa),true⟩)])++[(pd,⟨[sl pc 0 n 259,zya,int w,int (-1),.bool false],true⟩)]):=hO
  have h4:=h3.rot
  rw[List.append_assoc] at h4
  have e:dv pc zya { Dv.new n w with cells:=List.replicate n zQa }=[sl pc 0 n 259,zya,int w,int (-1),.bool false]:=by unfold dv; rw[List.length_replicate]; rfl
  show St H (Γ++([(pd,⟨dv pc zya { Dv.new n w with cells:=List.replicate n zQa },true⟩),(pc,⟨zff (List.replicate n zQa),true⟩)]++[]))
  rw[e]
  exact h4
 refine zQq (fun k l' H'=>∃ y:Nat,y≤n∧k=n - y∧l'=[.pointer none,ptr pd 0,int n,int y]∧St H' (Γ++DW pd pc zya { Dv.new n w with cells:=List.replicate y zlf++List.replicate (n - y) zQa })) _ _ ?_ n _ _ ⟨0,by omega,rfl,rfl,hO⟩
 clear hO
 rintro k l' H' ⟨y,hy,rfl,rfl,hO⟩
 unfold zNp
 try simp only[zla,zma]
 repeat refine oi ?_
 refine zja (fun h=>?_) (fun h=>?_)
 ·have hyl:y < n:=by omega
  generalize hC:List.replicate y zlf++List.replicate (n - y) zQa=C at *
  have hCl:C.length=n:=by rw[← hC]; simp; omega
  have okC:∀ c ∈ C,c.Ok:=by
   intro c hc
   rw[← hC] at hc
   rcases List.mem_append.1 hc with hc|hc
   ·rw[(List.mem_replicate.1 hc).2]; exact zvi
   ·rw[(List.mem_replicate.1 hc).2]; exact zWI
  repeat refine oi ?_
  refine zha hO (Γ.length+0) (zqa rfl) rfl ?_
  refine zIg hO ?_
  intro H2 hO2
  refine⟨zmb hO (Γ.length+0) (zqa rfl) hO2 (Γ.length+0) (zqa rfl) rfl,?_⟩
  clear hO
  refine zIg hO2 ?_
  intro H3 hO3
  refine⟨zmb hO2 (Γ.length+0) (zqa rfl) hO3 (Γ.length+0) (zqa rfl) rfl,?_⟩
  clear hO2
  refine zaa (zPN (s:=blank) (s':=blank) rfl rfl) ?_
  refine zaa (zHa (by omega) (by show (y:Int) < (C.length:Int); omega)) ?_
  have hcl:(zff C).length=n * 129:=by rw[zvD okC,hCl]
  have hcy:=zel (f:=cel) (l:=C) (i:=y) (o:=0) (y:=zlf) (new:=cel zlf) (fun c hc=>zCf (okC c hc)) (by omega) (by rw[zCf zvi]; omega) (by rw[List.drop_of_length_le (by rw[zCf zvi,zCf (okC _ (List.getElem_mem _))]; omega)]; simp)
  rw[zCf zvi] at hcy
  refine zgc hO3 (Γ.length+1) (zqa rfl) (show (cel zlf).length=129 from zCf zvi) (by show _≤(zff C).length; rw[hcl]; omega) (zTK _) ?_
  clear hO3
  intro H hO
  repeat refine oi ?_
  refine⟨_,by omega,y+1,by omega,rfl,rfl,zEx (d':={ Dv.new n w with cells:=List.replicate (y+1) zlf++List.replicate (n - (y+1)) zQa }) hO ?_ ?_ rfl rfl rfl rfl⟩
  ·have e1:0+(y:Int).toNat * 129=y * 129+0:=by rw[Int.toNat_natCast]; omega
   rw[e1]
   refine hcy.trans ?_
   show (C.set y zlf).flatMap cel=zff (List.replicate (y+1) zlf++List.replicate (n - (y+1)) zQa)
   rw[← hC,List.set_append_right _ _ (by simp),List.length_replicate,Nat.sub_self,show n - y=(n - (y+1))+1 by omega,List.replicate_succ,List.set_cons_zero,List.replicate_succ']
   simp[zff]
  ·show (_++_:List Cell).length=C.length
   rw[hCl]; simp; omega
 ·have ey:y=n:=by omega
  subst ey
  rw[Nat.sub_self,List.replicate_zero,List.append_nil] at hO
  repeat refine cy ?_
  exact hk _ pd pc hO
end J
set_option maxRecDepth 100000
namespace J
open Go Go.Ab
variable{H:Heap}{Γ:List (Nat × Blk)}{K:VH}{v w x:Value}{xs ys:List Int}{j p:Nat}{e:Int}
structure Op where
 kind:Int
 part:Int
 pos:Int
 who:Int
structure Mp where
 d:Dv
 spans:List (Nat × Nat)
 who:Int
 ops:List Op
def opC(o:Op):List Value:=[int o.kind,int o.part,int o.pos,int o.who]
def zwi(l:List Op):List Value:=l.flatMap opC
def spC(l:List (Nat × Nat)):List Value:=l.flatMap fun x=>[int x.1,int x.2]
structure Mloc where
 pm:Nat
 pd:Nat
 pc:Nat
 ps:Nat
 vd:Value
 vo:Value
def mv(L:Mloc)(m:Mp):List Value:=[ptr L.pd 0,sl L.ps 0 m.spans.length 4,int m.who,L.vo]
abbrev MA(L:Mloc)(m:Mp):List (Nat × Blk):=[(L.pm,⟨mv L m,true⟩),(L.ps,⟨spC m.spans,true⟩)]
abbrev MW(L:Mloc)(m:Mp):List (Nat × Blk):=MA L m++(zGa L.vo (zwi m.ops)++DW L.pd L.pc L.vd m.d)
structure Mown (L:Mloc) (m:Mp):Prop where
 d:zrE L.vd m.d
 o:Own 4 L.vo m.ops.length (zwi m.ops)
structure Mloc.Eq (L L':Mloc):Prop where
 m:L'.pm=L.pm
 d:L'.pd=L.pd
 c:L'.pc=L.pc
 s:L'.ps=L.ps
structure Mp.Ok (m:Mp):Prop where
 d:m.d.Ok
 s:∀ x ∈ m.spans,x.1+x.2≤m.d.cells.length
 n:m.spans.length≤16
def Mp.Sm(m:Mp)(N:Nat):Prop:=m.d.done.length≤N∧m.ops.length≤N
variable{L:Mloc}{m:Mp}{part pos:Int}
theorem MW.toD(h:St H (Γ++MW L m)):St H (((Γ++MA L m)++zGa L.vo (zwi m.ops))++DW L.pd L.pc L.vd m.d):=by
 rw[List.append_assoc,List.append_assoc]; exact h
theorem MW.ofD(h:St H (((Γ++MA L m)++zGa L.vo (zwi m.ops))++DW L.pd L.pc L.vd m.d)):St H (Γ++MW L m):=by
 rw[List.append_assoc,List.append_assoc] at h; exact h
def Mp.has(m:Mp)(part:Int):Prop:=0≤part∧part < m.spans.length
instance:Decidable (m.has part):=by unfold Mp.has; infer_instance
def Mp.span(m:Mp)(part:Int):Nat × Nat:=m.spans.getD part.toNat (0,0)
def Mp.size(m:Mp)(part:Int):Nat:=if m.has part then (m.span part).2 else 0
theorem Mp.span_mem(h:m.has part):m.span part ∈ m.spans:=by
 unfold Mp.span
 have:part.toNat < m.spans.length:=by have:=h.1; have:=h.2; omega
 rw[List.getD_eq_getElem?_getD,List.getElem?_eq_getElem this]
 exact List.getElem_mem this
theorem zMB(h:m.has part):(spC m.spans)[part.toNat * 2+0]?=some (int (m.span part).1)∧(spC m.spans)[part.toNat * 2+1]?=some (int (m.span part).2):=by
 have hi:part.toNat < m.spans.length:=by have:=h.1; have:=h.2; omega
 have e:m.span part=m.spans[part.toNat]:=by unfold Mp.span; rw[List.getD_eq_getElem?_getD,List.getElem?_eq_getElem hi]; rfl
 unfold spC
 rw[flat_get (n:=2) (fun _ _=>rfl) hi (by omega),flat_get (n:=2) (fun _ _=>rfl) hi (by omega),e]
 exact⟨rfl,rfl⟩
theorem zFq(hO:St H (Γ++MW L m))(hk:K (ptr L.pd 0) H):wCall P zCd [ptr L.pm 0] H K:=by
 apply zvn; unfold zgk
 repeat refine oi ?_
 refine zha hO (Γ.length+0) (zqa rfl) rfl ?_
 exact hk
theorem zMt(hO:St H (Γ++MW L m))(hk:K (.bool (decide (m.has part))) H):wCall P zVd [ptr L.pm 0,int part] H K:=by
 apply zst; unfold zrq
 repeat refine oi ?_
 refine zja (fun h=>?_) (fun h=>?_)
 ·repeat refine oi ?_
  refine zha hO (Γ.length+0) (zqa rfl) rfl ?_
  repeat (first|refine oi ?_|refine ow ?_)
  rw[decide_eq_decide.2 (show part < (m.spans.length:Int)↔m.has part from⟨fun h2=>⟨h,h2⟩,fun h2=>h2.2⟩)]
  exact hk
 ·repeat refine oi ?_
  rw[decide_eq_false (show ¬ m.has part from fun h2=>h h2.1)] at hk
  exact hk
theorem zxi(hO:St H (Γ++MW L m))(hk:K (int (m.size part)) H):wCall P zcc [ptr L.pm 0,int part] H K:=by
 apply zcr; unfold zVn
 refine zMt hO ?_
 unfold Mp.size at hk
 refine zaa zyc ?_
 by_cases h:m.has part
 ·rw[if_pos h] at hk
  rw[decide_eq_true h]
  refine zFe rfl ?_
  repeat refine oi ?_
  refine zha hO (Γ.length+0) (zqa rfl) rfl ?_
  refine zaa (zHa h.1 h.2) ?_
  repeat refine oi ?_
  rw[Nat.zero_add]
  refine zha hO (Γ.length+1) (zqa rfl) (zMB h).2 ?_
  exact hk
 ·rw[if_neg h] at hk
  rw[decide_eq_false h]
  exact zdg rfl hk
def Mp.place(m:Mp)(part pos:Int):Int × Int:=if ¬ m.has part then (0,71) else if pos < 0∨(m.span part).2≤pos then (0,61) else ((m.span part).1+pos,0)
theorem zPm(ok:m.Ok)(hO:St H (Γ++MW L m))(hk:K (.tuple [int (m.place part pos).1,int (m.place part pos).2].toArray) H):wCall P zWc [ptr L.pm 0,int part,int pos] H K:=by
 apply zkp; unfold zem
 refine zMt hO ?_
 unfold Mp.place at hk
 refine zaa zyc ?_
 by_cases h:m.has part
 ·rw[if_neg (fun h'=>h' h)] at hk
  rw[decide_eq_true h]
  refine zFe rfl ?_
  refine zwa (fun l' H'=>l'=[ptr L.pm 0,int part,int pos,.bool (decide (pos < 0∨(m.span part).2≤pos))]∧H'=H) ?_ ?_
  ·repeat refine oi ?_
   refine zja (fun h1=>?_) (fun h1=>?_)
   ·repeat refine oi ?_
    exact⟨by rw[decide_eq_true (.inl h1)],rfl⟩
   ·repeat refine oi ?_
    refine zha hO (Γ.length+0) (zqa rfl) rfl ?_
    refine zaa (zHa h.1 h.2) ?_
    repeat refine oi ?_
    rw[Nat.zero_add]
    refine zha hO (Γ.length+1) (zqa rfl) (zMB h).2 ?_
    repeat refine oi ?_
    exact⟨by rw[decide_eq_decide.2 (show ((m.span part).2:Int)≤pos↔(pos < 0∨(m.span part).2≤pos) by omega)],rfl⟩
  rintro l' H' ⟨rfl,rfl⟩
  try simp only[zla,zma]
  refine zja (fun h1=>?_) (fun h1=>?_)
  ·rw[if_pos h1] at hk
   exact hk
  ·rw[if_neg h1] at hk
   repeat refine oi ?_
   refine zha hO (Γ.length+0) (zqa rfl) rfl ?_
   refine zaa (zHa h.1 h.2) ?_
   repeat refine oi ?_
   rw[Nat.zero_add]
   refine zha hO (Γ.length+1) (zqa rfl) (zMB h).1 ?_
   have:=ok.s _ (Mp.span_mem h)
   have:=ok.d.n
   repeat refine oi ?_
   exact hk
 ·rw[if_pos h] at hk
  rw[decide_eq_false h]
  exact zdg rfl hk
def Mp.read(m:Mp)(part pos:Int):List Int × Int:=if (m.place part pos).2≠0 then (zeros,(m.place part pos).2) else m.d.read (m.place part pos).1
theorem Dv.read_len{d:Dv}(ok:d.Ok){a:Int}:(d.read a).1.length=64:=by
 unfold Dv.read
 by_cases h:d.has a
 ·rw[if_pos h]; exact (Dv.cellOk ok.c h).s
 ·rw[if_neg h]; rfl
theorem Mp.read_len(ok:m.Ok):(m.read part pos).1.length=64:=by
 unfold Mp.read
 split
 ·rfl
 ·exact Dv.read_len ok.d
theorem zfw(ok:m.Ok)(hO:St H (Γ++MW L m))(hk:∀ H',St H' (Γ++MW L m)→K (.tuple [sec (m.read part pos).1,int (m.read part pos).2].toArray) H'):wCall P zNe [ptr L.pm 0,int part,int pos] H K:=by
 apply zdr; unfold zWn
 rw[zcS]
 refine zxa hO ?_
 clear hO
 intro p6 H hO
 replace hO:=hO.rot
 have i6:(Γ++[(p6,(⟨by8 zeros,true⟩:Blk))])[Γ.length+0]?=some (p6,⟨by8 zeros,true⟩):=zqa rfl
 refine zPm ok hO ?_
 refine zaa zRh ?_
 refine zaa zSh ?_
 refine zaa zKa ?_
 unfold Mp.read at hk
 refine zja (fun h=>?_) (fun h=>?_)
 ·rw[if_pos h] at hk
  refine zaa bS ?_
  refine zoa hO (Γ.length+0) (zza i6) (by rw[zta]; rfl) (by rw[zta]; rfl) (ztb _) ?_
  clear hO
  intro H hO
  rw[List.set_append_left _ _ (by simp),Go.Ab.set_r] at hO
  refine zia hO (Γ.length+0) (zza (zqa rfl)) (by rw[zta]; rfl) (by omega) ?_
  exact hk _ (St.mid hO)
 ·rw[if_neg h] at hk
  repeat refine oi ?_
  refine zha hO ((Γ++[(p6,(⟨by8 zeros,true⟩:Blk))]).length+0) (zqa rfl) rfl ?_
  refine ztE ok.d.c (MW.toD hO) ?_
  clear hO
  intro H hO
  replace hO:=MW.ofD hO
  refine zaa zRh ?_
  refine zaa zSh ?_
  have hl:=Dv.read_len ok.d (a:=(m.place part pos).1)
  refine zoa hO (Γ.length+0) (zza i6) (by rw[zta]; rfl) (by rw[zta]; exact hl) (ztb _) ?_
  clear hO
  intro H hO
  rw[List.set_append_left _ _ (by simp),Go.Ab.set_r] at hO
  refine zia hO (Γ.length+0) (zza (zqa rfl)) (by rw[zta]; exact hl) (by omega) ?_
  exact hk _ (St.mid hO)
def Mp.note(m:Mp)(o:Op)(e:Int):Mp:=if e=0 then { m with ops:=m.ops++[{ o with who:=m.who }] } else m
theorem zQN(o:Op)(H:Heap):(zpa P 46 1).f [(0,agg (opC o))] H=some (sl H.next 0 1 9,H.push (opC o)):=by kernel_rfl
theorem bOp(a b c:Int):(zAa P 121).f [(0,int a),(1,int b),(2,int c)]=some (agg (opC ⟨a,b,c,0⟩)):=by kernel_rfl
theorem zRz(l:List Op)(o:Op):zwi l++opC o=zwi (l++[o]):=by simp[zwi]
theorem zSz{o:Op}(hs:m.ops.length≤1000000000)(hO:St H (Γ++MW L m))(hv:Mown L m)
  (hk:∀ H' L',L.Eq L'→St H' (Γ++MW L' (m.note o e))→Mown L' (m.note o e)→K (int e) H'):wCall P zVe [ptr L.pm 0,agg (opC o),int e] H K:=by
 apply zrr; unfold zlo
 refine zxa hO ?_
 clear hO
 intro p4 H hO
 replace hO:=hO.rot
 have i4:(Γ++[(p4,(⟨opC o,true⟩:Blk))])[Γ.length+0]?=some (p4,⟨opC o,true⟩):=zqa rfl
 replace hO:St H ((Γ++[(p4,⟨opC o,true⟩)])++MW L m):=hO
 refine zaa zfb ?_
 unfold Mp.note at hk
 refine zja (fun h=>?_) (fun h=>?_)
 ·rw[if_pos h] at hk
  repeat refine oi ?_
  refine zha hO ((Γ++[(p4,(⟨opC o,true⟩:Blk))]).length+0) (zqa rfl) rfl ?_
  repeat refine oi ?_
  refine zua hO (Γ.length+0) (zza i4) rfl (show 3 < 4 by omega) (show _=opC { o with who:=m.who } from rfl) ?_
  clear hO
  intro H hO
  rw[List.set_append_left _ _ (by simp),Go.Ab.set_r] at hO
  replace hO:St H ((Γ++[(p4,⟨opC { o with who:=m.who },true⟩)])++MW L m):=hO
  clear i4
  have i4:(Γ++[(p4,(⟨opC { o with who:=m.who },true⟩:Blk))])[Γ.length+0]?=some (p4,⟨opC { o with who:=m.who },true⟩):=zqa rfl
  have fin:∀ {H:Heap} {Δ:List (Nat × Blk)},St H ((Γ++[(p4,⟨opC { o with who:=m.who },true⟩)])++Δ)→St H (Γ++Δ):=fun h=>St.mid h
  generalize Γ++[(p4,(⟨opC { o with who:=m.who },true⟩:Blk))]=Γ' at hO i4 fin
  repeat refine oi ?_
  refine zha hO (Γ'.length+0) (zqa rfl) rfl ?_
  refine zia hO (Γ.length+0) (zza i4) rfl (by omega) ?_
  have hO':St H (((Γ'++MA L m)++DW L.pd L.pc L.vd m.d)++zGa L.vo (zwi m.ops)):=(MW.toD hO).rot
  refine zEa hO' (zQN _ _) ?_
  clear hO hO'
  intro q H hO
  refine zSc hO hv.o rfl (by omega) rfl (by omega) (by omega) ?_
  clear hO
  intro vo' H hO hvo
  repeat refine oi ?_
  obtain⟨a1,n1,c1,e1⟩:∃ a1 n1 c1,vo'=.slice a1 n1 c1:=by rcases hvo with⟨_,h,_⟩|⟨p,rfl|rfl,_⟩; omega; exact⟨_,_,_,rfl⟩; exact⟨_,_,_,rfl⟩
  refine zua hO (Γ'.length+0) (zza (zza (zqa rfl))) (by rw[e1]; rfl) (show 3 < 4 by omega) rfl ?_
  clear hO
  intro H hO
  rw[List.set_append_left _ _ (by simp),List.set_append_left _ _ (by simp),Go.Ab.set_r] at hO
  rw[zRz] at hO hvo
  have h3:St H (((Γ'++MA ⟨L.pm,L.pd,L.pc,L.ps,L.vd,vo'⟩ m)++DW L.pd L.pc L.vd m.d)++zGa vo' (zwi (m.ops++[{ o with who:=m.who }]))):=hO
  refine hk H ⟨L.pm,L.pd,L.pc,L.ps,L.vd,vo'⟩ ⟨rfl,rfl,rfl,rfl⟩ (fin (MW.ofD (m:={ m with ops:=m.ops++[{ o with who:=m.who }] }) h3.rot)) ⟨hv.d,?_⟩
  show Own 4 vo' (m.ops++[_]).length _
  rw[List.length_append]
  exact hvo
 ·rw[if_neg h] at hk
  exact hk _ L ⟨rfl,rfl,rfl,rfl⟩ (St.mid hO) hv
end J
set_option maxRecDepth 100000
namespace J
open Go Go.Ab
variable{H:Heap}{Γ:List (Nat × Blk)}{K:VH}{v w x:Value}{xs ys:List Int}{j p:Nat}{e:Int}
variable{L:Mloc}{m:Mp}{part pos:Int}{s:List Int}
def Mp.erase(m:Mp)(part pos:Int):Mp × Int:=if (m.place part pos).2≠0 then (m,(m.place part pos).2) else (({ m with d:=(m.d.erase (m.place part pos).1).1 }:Mp).note ⟨1,part,pos,0⟩ (m.d.erase (m.place part pos).1).2,(m.d.erase (m.place part pos).1).2)
def Mp.program(m:Mp)(part pos:Int)(s:List Int):Mp × Int:=if (m.place part pos).2≠0 then (m,(m.place part pos).2) else (({ m with d:=(m.d.program (m.place part pos).1 s).1 }:Mp).note ⟨2,part,pos,0⟩ (m.d.program (m.place part pos).1 s).2,(m.d.program (m.place part pos).1 s).2)
def Mp.sync(m:Mp):Mp × Int:=({ m with d:=m.d.sync.1 },m.d.sync.2)
theorem Dv.erase_len{d:Dv}{a:Int}:(d.erase a).1.cells.length=d.cells.length:=by
 unfold Dv.erase
 split
 ·rfl
 split
 ·rfl
 split
 ·rfl
 split
 ·rfl
 show ((d.step.cells.set _ _).set _ _).length=_
 rw[List.length_set,List.length_set]; rfl
theorem Dv.program_len{d:Dv}{a:Int}:(d.program a s).1.cells.length=d.cells.length:=by
 unfold Dv.program
 split
 ·rfl
 split
 ·rfl
 split
 ·rfl
 split
 ·rfl
 show (d.step.cells.set _ _).length=_
 rw[List.length_set]; rfl
theorem Dv.sync_len{d:Dv}:d.sync.1.cells.length=d.cells.length:=by
 unfold Dv.sync
 split
 ·rfl
 split
 ·rfl
 exact zyd _ _
theorem Dv.erase_done{d:Dv}{a:Int}:(d.erase a).1.done.length≤d.done.length+1:=by
 unfold Dv.erase
 split
 ·exact Nat.le_succ _
 split
 ·exact Nat.le_succ _
 split
 ·exact Nat.le_succ _
 split
 ·exact Nat.le_succ _
 show (d.done++[_]).length≤_
 simp
theorem Dv.program_done{d:Dv}{a:Int}:(d.program a s).1.done.length≤d.done.length+1:=by
 unfold Dv.program
 split
 ·exact Nat.le_succ _
 split
 ·exact Nat.le_succ _
 split
 ·exact Nat.le_succ _
 split
 ·exact Nat.le_succ _
 show (d.done++[_]).length≤_
 simp
theorem Dv.sync_done{d:Dv}:d.sync.1.done.length≤d.done.length:=by
 unfold Dv.sync
 split
 ·exact Nat.le_refl _
 split
 ·exact Nat.le_refl _
 exact Nat.zero_le _
theorem Mp.note_d{o:Op}:(m.note o e).d=m.d:=by unfold Mp.note; split <;> rfl
theorem Mp.note_s{o:Op}:(m.note o e).spans=m.spans:=by unfold Mp.note; split <;> rfl
theorem Mp.note_ops{o:Op}:(m.note o e).ops.length≤m.ops.length+1:=by
 unfold Mp.note; split
 ·simp
 ·exact Nat.le_succ _
theorem Mp.note_ok{o:Op}(ok:m.Ok):(m.note o e).Ok:=⟨by rw[Mp.note_d]; exact ok.d,by rw[Mp.note_d,Mp.note_s]; exact ok.s,by rw[Mp.note_s]; exact ok.n⟩
theorem Mp.erase_ok(ok:m.Ok):(m.erase part pos).1.Ok:=by
 unfold Mp.erase
 split
 ·exact ok
 ·exact Mp.note_ok ⟨Dv.erase_ok ok.d,by rw[Dv.erase_len]; exact ok.s,ok.n⟩
theorem Mp.program_ok(ok:m.Ok)(hs:s.length=64):(m.program part pos s).1.Ok:=by
 unfold Mp.program
 split
 ·exact ok
 ·exact Mp.note_ok ⟨Dv.program_ok ok.d hs,by rw[Dv.program_len]; exact ok.s,ok.n⟩
theorem Mp.sync_ok(ok:m.Ok):m.sync.1.Ok:=⟨Dv.sync_ok ok.d,by show ∀ x ∈ m.spans,_≤m.d.sync.1.cells.length; rw[Dv.sync_len]; exact ok.s,ok.n⟩
theorem Mp.Sm.mono{N M:Nat}(h:m.Sm N)(hm:N≤M):m.Sm M:=⟨Nat.le_trans h.1 hm,Nat.le_trans h.2 hm⟩
theorem Mp.erase_sm{N:Nat}(h:m.Sm N):(m.erase part pos).1.Sm (N+1):=by
 unfold Mp.erase
 split
 ·exact h.mono (Nat.le_succ _)
 ·refine⟨?_,Nat.le_trans Mp.note_ops (Nat.succ_le_succ h.2)⟩
  rw[Mp.note_d]
  exact Nat.le_trans Dv.erase_done (Nat.succ_le_succ h.1)
theorem Mp.program_sm{N:Nat}(h:m.Sm N):(m.program part pos s).1.Sm (N+1):=by
 unfold Mp.program
 split
 ·exact h.mono (Nat.le_succ _)
 ·refine⟨?_,Nat.le_trans Mp.note_ops (Nat.succ_le_succ h.2)⟩
  rw[Mp.note_d]
  exact Nat.le_trans Dv.program_done (Nat.succ_le_succ h.1)
theorem Mp.sync_sm{N:Nat}(h:m.Sm N):m.sync.1.Sm N:=⟨Nat.le_trans Dv.sync_done h.1,h.2⟩
theorem Mloc.Eq.rfl':L.Eq L:=⟨rfl,rfl,rfl,rfl⟩
theorem Mloc.Eq.trans{L L' L'':Mloc}(h:L.Eq L')(h':L'.Eq L''):L.Eq L'':=⟨h'.m.trans h.m,h'.d.trans h.d,h'.c.trans h.c,h'.s.trans h.s⟩
theorem MW.dev{d':Dv}{vd':Value}(h:St H (((Γ++MA L m)++zGa L.vo (zwi m.ops))++DW L.pd L.pc vd' d')):St H (Γ++MW { L with vd:=vd' } { m with d:=d' }):=MW.ofD (L:={ L with vd:=vd' }) (m:={ m with d:=d' }) h
theorem zNB(ok:m.Ok)(hs:m.Sm 1000000)(hO:St H (Γ++MW L m))(hv:Mown L m)
  (hk:∀ H' L',L.Eq L'→St H' (Γ++MW L' (m.erase part pos).1)→Mown L' (m.erase part pos).1→K (int (m.erase part pos).2) H'):wCall P zgg [ptr L.pm 0,int part,int pos] H K:=by
 apply zmp; unfold zjm
 refine zPm ok hO ?_
 refine zaa zRh ?_
 refine zaa zSh ?_
 refine zaa zKa ?_
 unfold Mp.erase at hk
 refine zja (fun h=>?_) (fun h=>?_)
 ·rw[if_pos h] at hk
  exact hk _ L Mloc.Eq.rfl' hO hv
 ·rw[if_neg h] at hk
  refine zaa (bOp _ _ _) ?_
  repeat refine oi ?_
  refine zha hO (Γ.length+0) (zqa rfl) rfl ?_
  refine zLB ok.d hs.1 (MW.toD hO) hv.d ?_
  clear hO
  intro H vd' hO hvd
  refine zSz (L:={ L with vd:=vd' }) (m:={ m with d:=(m.d.erase (m.place part pos).1).1 }) (by have:=hs.2; show m.ops.length≤_; omega) (MW.dev hO) ⟨hvd,hv.o⟩ ?_
  clear hO
  intro H L' he hO hv'
  exact hk _ L' ⟨he.m,he.d,he.c,he.s⟩ hO hv'
theorem zGx(ok:m.Ok)(hl:s.length=64)(hs:m.Sm 1000000)(hO:St H (Γ++MW L m))(hv:Mown L m)
  (hk:∀ H' L',L.Eq L'→St H' (Γ++MW L' (m.program part pos s).1)→Mown L' (m.program part pos s).1→K (int (m.program part pos s).2) H'):wCall P zUe [ptr L.pm 0,int part,int pos,sec s] H K:=by
 apply zLm; unfold zAj
 refine zxa hO ?_
 clear hO
 intro p7 H hO
 replace hO:=hO.rot
 replace hO:St H ((Γ++[(p7,⟨by8 s,true⟩)])++MW L m):=hO
 have i7:(Γ++[(p7,(⟨by8 s,true⟩:Blk))])[Γ.length+0]?=some (p7,⟨by8 s,true⟩):=zqa rfl
 have fin:∀ {H:Heap} {Δ:List (Nat × Blk)},St H ((Γ++[(p7,⟨by8 s,true⟩)])++Δ)→St H (Γ++Δ):=fun h=>St.mid h
 generalize Γ++[(p7,(⟨by8 s,true⟩:Blk))]=Γ' at hO i7 fin
 refine zPm ok hO ?_
 refine zaa zRh ?_
 refine zaa zSh ?_
 refine zaa zKa ?_
 unfold Mp.program at hk
 refine zja (fun h=>?_) (fun h=>?_)
 ·rw[if_pos h] at hk
  exact hk _ L Mloc.Eq.rfl' (fin hO) hv
 ·rw[if_neg h] at hk
  refine zaa (bOp _ _ _) ?_
  repeat refine oi ?_
  refine zha hO (Γ'.length+0) (zqa rfl) rfl ?_
  refine zia hO (Γ.length+0) (zza i7) (by rw[zta]; exact hl) (by omega) ?_
  refine zCx ok.d hl hs.1 (MW.toD hO) hv.d ?_
  clear hO
  intro H vd' hO hvd
  refine zSz (L:={ L with vd:=vd' }) (m:={ m with d:=(m.d.program (m.place part pos).1 s).1 }) (by have:=hs.2; show m.ops.length≤_; omega) (MW.dev hO) ⟨hvd,hv.o⟩ ?_
  clear hO
  intro H L' he hO hv'
  exact hk _ L' ⟨he.m,he.d,he.c,he.s⟩ (fin hO) hv'
theorem zgw(ok:m.Ok)(hs:m.Sm 1000000)(hO:St H (Γ++MW L m))(hv:Mown L m)
  (hk:∀ H' L',L.Eq L'→St H' (Γ++MW L' m.sync.1)→Mown L' m.sync.1→K (int m.sync.2) H'):wCall P zRe [ptr L.pm 0] H K:=by
 apply zfr; unfold zeo
 repeat refine oi ?_
 refine zha hO (Γ.length+0) (zqa rfl) rfl ?_
 refine zuE ok.d hs.1 (MW.toD hO) hv.d ?_
 clear hO
 intro H vd' hO hvd
 exact hk H { L with vd:=vd' } ⟨rfl,rfl,rfl,rfl⟩ (MW.dev hO) ⟨hvd,hv.o⟩
def Mp.wipeN(part:Int):Nat→Nat→Mp→Mp × Int
 | 0,_,m=>(m,0)
 | n+1,y,m=>if (m.read part y).1=blank then wipeN part n (y+1) m else if (m.erase part y).2≠0 then m.erase part y else wipeN part n (y+1) (m.erase part y).1
theorem Mp.wipeN_zero{y:Nat}:Mp.wipeN part 0 y m=(m,0):=rfl
theorem Mp.wipeN_succ{n y:Nat}:Mp.wipeN part (n+1) y m=if (m.read part y).1=blank then wipeN part n (y+1) m else if (m.erase part y).2≠0 then m.erase part y else wipeN part n (y+1) (m.erase part y).1:=rfl
def Mp.wipe(m:Mp)(part:Int):Mp × Int:=if ¬ m.has part then (m,71) else Mp.wipeN part (m.size part) 0 m
theorem zvE{N:Nat}(ok:m.Ok)(hs:m.Sm N)(hN:N+5000≤1000000)(hO:St H (Γ++MW L m))(hv:Mown L m)
  (hk:∀ H' L',L.Eq L'→St H' (Γ++MW L' (m.wipe part).1)→Mown L' (m.wipe part).1→K (int (m.wipe part).2) H'):wCall P zQe [ptr L.pm 0,int part] H K:=by
 apply zer; unfold zdo
 refine zMt hO ?_
 unfold Mp.wipe at hk
 refine zaa zyc ?_
 by_cases h:m.has part
 ·rw[if_neg (fun h'=>h' h)] at hk
  rw[decide_eq_true h]
  refine zFe rfl ?_
  refine zxi hO ?_
  have hsz:m.size part≤4096:=by
   unfold Mp.size
   rw[if_pos h]
   have:=ok.s _ (Mp.span_mem h)
   have:=ok.d.n
   omega
  refine zrl (fun k l' H'=>∃ (y:Nat) (L2:Mloc) (m2:Mp),y≤m.size part∧k=m.size part - y∧l'=[ptr L.pm 0,int part,int 0,int (m.size part),int y]∧L.Eq L2∧m2.Ok∧m2.Sm (N+y)∧St H' (Γ++MW L2 m2)∧Mown L2 m2∧Mp.wipeN part (m.size part) 0 m=Mp.wipeN part (m.size part - y) y m2) _ _ ?_ (m.size part) _ _ ⟨0,L,m,by omega,rfl,rfl,Mloc.Eq.rfl',ok,hs,hO,hv,rfl⟩
  clear hO
  rintro k l' H ⟨y,L2,m2,hy,rfl,rfl,he,ok2,hs2,hO,hv2,hw⟩
  unfold zyj
  try simp only[zla,zma]
  repeat refine oi ?_
  refine zja (fun h1=>?_) (fun h1=>?_)
  ·have hyl:y < m.size part:=by omega
   rw[show m.size part - y=(m.size part - (y+1))+1 by omega] at hw
   rw[Mp.wipeN_succ] at hw
   have em:=he.m
   rw[← em]
   refine zfw ok2 hO ?_
   clear hO
   intro H hO
   have hl:=Mp.read_len ok2 (part:=part) (pos:=(y:Int))
   refine zaa zRh ?_
   refine zaa zSh ?_
   rw[zcS]
   refine zxa hO ?_
   clear hO
   intro p6 H hO
   refine zoa hO ((Γ++MW L2 m2).length+0) (zqa rfl) (by rw[zta]; rfl) (by rw[zta]; exact hl) (ztb _) ?_
   clear hO
   intro H hO
   replace hO:St H ((Γ++MW L2 m2)++[(p6,⟨by8 (m2.read part y).1,true⟩)]):=hO.set_r
   refine zia hO ((Γ++MW L2 m2).length+0) (zqa rfl) (by rw[zta]; exact hl) (by omega) ?_
   refine zIg hO ?_
   intro H2 hO2
   refine⟨zmb hO ((Γ++MW L2 m2).length+0) (zqa rfl) hO2 ((Γ++MW L2 m2).length+0) (zqa rfl) (zHg _),?_⟩
   clear hO
   have hO:=hO2.left
   clear hO2
   refine zaa (eqS _ hl rfl) ?_
   refine zja (fun h2=>?_) (fun h2=>?_)
   ·rw[if_pos h2] at hw
    repeat refine oi ?_
    exact⟨_,by omega,y+1,L2,m2,by omega,rfl,by rw[em]; rfl,he,ok2,hs2.mono (by omega),hO,hv2,hw⟩
   ·rw[if_neg h2] at hw
    refine zNB ok2 (hs2.mono (by omega)) hO hv2 ?_
    clear hO
    intro H L3 he3 hO hv3
    refine zaa zKa ?_
    refine zja (fun h3=>?_) (fun h3=>?_)
    ·rw[if_pos h3] at hw
     try simp only[zla,zma]
     rw[hw] at hk
     exact hk _ L3 (he.trans he3) hO hv3
    ·rw[if_neg h3] at hw
     repeat refine oi ?_
     exact⟨_,by omega,y+1,L3,_,by omega,rfl,by rw[em]; rfl,he.trans he3,Mp.erase_ok ok2,(Mp.erase_sm hs2).mono (by omega),hO,hv3,hw⟩
  ·have ey:y=m.size part:=by omega
   subst ey
   rw[Nat.sub_self] at hw
   rw[Mp.wipeN_zero] at hw
   rw[hw] at hk
   repeat refine cy ?_
   exact hk _ L2 he hO hv2
 ·rw[if_pos h] at hk
  rw[decide_eq_false h]
  exact zdg rfl (hk _ L Mloc.Eq.rfl' hO hv)
end J
set_option maxRecDepth 100000
namespace J
open Go Go.Ab
variable{H:Heap}{Γ:List (Nat × Blk)}{K:VH}{v w x:Value}{xs ys bs:List Int}{j p:Nat}{e:Int}
variable{L:Mloc}{m:Mp}{part pos:Int}{s:List Int}
theorem zEG(hO:St H (Γ++MW L m))(hv:Mown L m)
  (hk:∀ H',St H' ((Γ++zGa L.vo (zwi m.ops))++MW { L with vo:=zya } { m with ops:=[] })→Mown { L with vo:=zya } { m with ops:=[] }→K L.vo H'):wCall P zIh [ptr L.pm 0] H K:=by
 apply zMs; unfold zQp
 repeat refine oi ?_
 refine zha hO (Γ.length+0) (zqa rfl) rfl ?_
 repeat refine oi ?_
 refine zua hO (Γ.length+0) (zqa rfl) rfl (show 3 < 4 by omega) rfl ?_
 clear hO
 intro H hO
 have h3:St H (Γ++(MA { L with vo:=zya } { m with ops:=[] }++(zGa L.vo (zwi m.ops)++DW L.pd L.pc L.vd m.d))):=hO.set_r
 refine hk H ?_ ⟨hv.d,.inl ⟨rfl,rfl,rfl⟩⟩
 refine h3.perm ?_
 show (Γ++(MA _ _++(zGa L.vo (zwi m.ops)++DW L.pd L.pc L.vd m.d))).Perm ((Γ++zGa L.vo (zwi m.ops))++(MA _ _++([]++DW L.pd L.pc L.vd m.d)))
 rw[List.append_assoc,List.nil_append,← List.append_assoc (MA _ _),← List.append_assoc (zGa _ _)]
 exact List.Perm.append_left Γ (List.Perm.append_right _ List.perm_append_comm)
def spansFrom:Nat→List Nat→List (Nat × Nat)
 | _,[]=>[]
 | n,x::l=>(n,x)::spansFrom (n+x) l
theorem zTz:∀ (l:List Nat) (n:Nat),(spansFrom n l).length=l.length
 | [],_=>rfl
 | x::l,n=>by show (spansFrom (n+x) l).length+1=_; rw[zTz l]; rfl
theorem zhw:∀ (l:List Nat) (n y:Nat) (h:y < l.length),(spansFrom n l).take (y+1)=(spansFrom n l).take y++[(n+(l.take y).sum,l[y])]
 | x::l,n,0,_=>by simp[spansFrom]
 | x::l,n,y+1,h=>by
  have:=zhw l (n+x) y (by simpa using h)
  show (n,x)::(spansFrom (n+x) l).take (y+1)=(n,x)::(spansFrom (n+x) l).take y++[(n+(x+(l.take y).sum),_)]
  rw[this,Nat.add_assoc]; rfl
theorem zGO(pd:Nat):(zAa P 85).f [(0,ptr pd 0)]=some (agg [ptr pd 0,zya,int 0,zya]):=by kernel_rfl
theorem zRN(a b:Int):(zAa P 88).f [(0,int a),(1,int b)]=some (agg [int a,int b]):=by kernel_rfl
theorem zvM(a b:Int)(H:Heap):(zpa P 83 1).f [(0,agg [int a,int b])] H=some (sl H.next 0 1 5,H.push [int a,int b]):=by kernel_rfl
theorem zij:∀ (l:List Nat) (y:Nat),(l.take y).sum≤l.sum
 | [],y=>by simp
 | x::l,0=>by simp
 | x::l,y+1=>by simp; exact zij l y
theorem zpo(l:List Nat)(y:Nat)(h:y < l.length):(l.take (y+1)).sum=(l.take y).sum+l[y]:=by
 rw[List.take_succ_eq_append_getElem h,List.sum_append]; simp
set_option maxHeartbeats 1000000 in
theorem zFG{pd pc q c:Nat}{vd:Value}{d:Dv}{sizes:List Nat}{jz:Nat}{b:Bool}(ok:d.Ok)(hO:St H (Γ++DW pd pc vd d))(hz:Γ[jz]?=some (q,⟨sizes.map fun (n:Nat)=>int n,b⟩))(h0:0 < sizes.length)(h16:sizes.length≤16)
  (h1:∀ n ∈ sizes,1≤n) (hs:sizes.sum≤d.cells.length) (hv:zrE vd d)
  (hk:∀ H' pm ps,St H' (Γ++MW ⟨pm,pd,pc,ps,vd,zya⟩ ⟨d,spansFrom 0 sizes,0,[]⟩)→Mown ⟨pm,pd,pc,ps,vd,zya⟩ ⟨d,spansFrom 0 sizes,0,[]⟩→K (.tuple [ptr pm 0,int 0].toArray) H'):wCall P zZk [ptr pd 0,sl q 0 sizes.length c] H K:=by
 apply zyB; unfold zgD
 refine zwa (fun l' H'=>l'=[ptr pd 0,sl q 0 sizes.length c,.pointer none,int 0,.bool false]∧H'=H) ?_ ?_
 ·repeat (first|refine oi ?_|refine ow ?_|refine wn ?_)
  rw[decide_eq_false (by omega)]
  exact⟨rfl,rfl⟩
 rintro l' H' ⟨rfl,rfl⟩
 try simp only[zla,zma]
 refine zFe rfl ?_
 refine zaa (zGO pd) ?_
 refine zxa hO ?_
 clear hO
 intro pm H hO
 replace hO:St H (((Γ++DW pd pc vd d)++[(pm,⟨[ptr pd 0,zya,int 0,zya],true⟩)])++zGa zya (spC [])):=by
  show St H (((Γ++DW pd pc vd d)++[(pm,⟨[ptr pd 0,zya,int 0,zya],true⟩)])++[])
  rw[List.append_nil]; exact hO
 repeat refine ow ?_
 have hdn:=ok.n
 have hlen:=zTz sizes 0
 refine zJs (fun k l' H'=>∃ (y:Nat) (vs:Value),y≤sizes.length∧k=sizes.length - y∧l'=[ptr pd 0,.pointer none,int 0,ptr pm 0,int ((sizes.take y).sum:Nat),sl q 0 sizes.length c,int sizes.length,int y]∧St H' (((Γ++DW pd pc vd d)++[(pm,⟨[ptr pd 0,vs,int 0,zya],true⟩)])++zGa vs (spC ((spansFrom 0 sizes).take y)))∧Own 2 vs y (spC ((spansFrom 0 sizes).take y))∧(0 < y→∃ ps,vs=sl ps 0 y 4)) _ _ ?_ sizes.length _ _ ⟨0,zya,by omega,rfl,rfl,hO,.inl ⟨rfl,rfl,rfl⟩,fun h=>absurd h (by omega)⟩
 clear hO
 rintro k l' H ⟨y,vs,hy,rfl,rfl,hO,hvs,hps⟩
 unfold zIs
 try simp only[zla,zma]
 have hst:=zij sizes y
 repeat refine oi ?_
 refine zja (fun h=>?_) (fun h=>?_)
 ·have hyl:y < sizes.length:=by omega
  have hm:=h1 _ (List.getElem_mem hyl)
  have hst1:=zij sizes (y+1)
  have hss:=zpo sizes y hyl
  refine zaa (zHa (by omega) (by omega)) ?_
  refine zha hO jz (zza (zza (zza hz))) (v:=int sizes[y]) (by
   show (sizes.map fun (n:Nat)=>int n)[0+((y:Nat):Int).toNat * 1]?=_
   rw[Int.toNat_natCast,show 0+y * 1=y by omega]; simp[hyl]) ?_
  refine zwa (fun l' H'=>l'=[ptr pd 0,.pointer none,int 0,ptr pm 0,int ((sizes.take y).sum:Nat),int sizes[y],sl q 0 sizes.length c,int sizes.length,int y,.bool false]∧H'=H) ?_ ?_
  ·refine zaa zMa ?_
   rw[decide_eq_false (show ¬ ((sizes[y]:Nat):Int) < 1 by omega)]
   refine zFe rfl ?_
   refine zsE hO (zza (zza (zqa (k:=0) rfl))) ?_
   repeat refine oi ?_
   rw[decide_eq_false (show ¬ ((d.cells.length:Int) - ((sizes.take y).sum:Nat)) < ((sizes[y]:Nat):Int) by omega)]
   exact⟨rfl,rfl⟩
  rintro l' H' ⟨rfl,rfl⟩
  try simp only[zla,zma]
  refine zFe rfl ?_
  repeat refine oi ?_
  refine zha hO ((Γ++DW pd pc vd d).length+0) (zza (zqa rfl)) rfl ?_
  refine zaa (zRN _ _) ?_
  refine zEa hO (zvM _ _ _) ?_
  clear hO
  intro q2 H hO
  refine zDq hO hvs rfl (by omega) rfl (by omega) (by omega) ?_
  clear hO
  intro ps H hO hvs'
  have e5:spC ((spansFrom 0 sizes).take y)++[int ((sizes.take y).sum:Nat),int sizes[y]]=spC ((spansFrom 0 sizes).take (y+1)):=by
   rw[zhw sizes 0 y hyl]
   simp[spC]
  rw[e5] at hO hvs'
  repeat refine oi ?_
  refine zua hO ((Γ++DW pd pc vd d).length+0) (zza (zqa rfl)) rfl (show 1 < 4 by omega) rfl ?_
  clear hO
  intro H hO
  rw[List.set_append_left _ _ (by simp),Go.Ab.set_r] at hO
  repeat refine oi ?_
  refine⟨_,by omega,y+1,_,by omega,rfl,?_,hO,hvs',fun _=>⟨ps,rfl⟩⟩
  rw[hss]
  simp
 ·have ey:y=sizes.length:=by omega
  subst ey
  rw[List.take_of_length_le (by rw[hlen]; exact Nat.le_refl _)] at hO hvs
  obtain⟨ps,rfl⟩:=hps h0
  repeat refine cy ?_
  refine hk H pm ps ?_ ⟨hv,.inl ⟨rfl,rfl,rfl⟩⟩
  have h3:St H (((Γ++DW pd pc vd d)++[(pm,⟨[ptr pd 0,sl ps 0 sizes.length 4,int 0,zya],true⟩)])++[(ps,⟨spC (spansFrom 0 sizes),true⟩)]):=hO
  rw[List.append_assoc] at h3
  have h4:=h3.rot
  rw[List.append_assoc] at h4
  have e7:mv ⟨pm,pd,pc,ps,vd,zya⟩ ⟨d,spansFrom 0 sizes,0,[]⟩=[ptr pd 0,sl ps 0 sizes.length 4,int 0,zya]:=by unfold mv; rw[hlen]
  show St H (Γ++([(pm,⟨mv ⟨pm,pd,pc,ps,vd,zya⟩ ⟨d,spansFrom 0 sizes,0,[]⟩,true⟩),(ps,⟨spC (spansFrom 0 sizes),true⟩)]++([]++DW pd pc vd d)))
  rw[e7,List.nil_append]
  exact h4
end J
set_option maxRecDepth 100000
namespace J
open Go Go.Ab
variable{H:Heap}{Γ Γ0 Γ2 Δ G:List (Nat × Blk)}{K:VH}{v w x:Value}{xs ys zs bs b:List Int}{j p pd pz:Nat}{e:Int}{cs:List Value}{L:Mloc}{m:Mp}{part pos:Int}
def Mp.upto(m:Mp)(part:Int)(n:Nat):List Int:=(List.range n).flatMap fun (i:Nat)=>(m.read part i).1
def Mp.all(m:Mp)(part:Int):List Int:=m.upto part (m.size part)
theorem Mp.upto_succ{n:Nat}:m.upto part (n+1)=m.upto part n++(m.read part n).1:=by
 unfold Mp.upto
 rw[List.range_succ,List.flatMap_append,List.flatMap_cons,List.flatMap_nil,List.append_nil]
theorem Mp.upto_len(ok:m.Ok):∀ n,(m.upto part n).length=64 * n
 | 0=>rfl
 | n+1=>by rw[Mp.upto_succ,List.length_append,Mp.upto_len ok n,Mp.read_len ok]; omega
theorem Mp.size_le(ok:m.Ok):m.size part≤4096:=by
 unfold Mp.size
 split
 ·rename_i h
  have h1:=ok.s _ (Mp.span_mem h)
  have h2:=ok.d.n
  omega
 ·omega
end J
set_option maxRecDepth 100000
namespace J
open Go Go.Ab
variable{H:Heap}{Γ:List (Nat × Blk)}{K:VH}{v w x:Value}{xs ys bs:List Int}{j p:Nat}{e:Int}
noncomputable def zPL(r:Nat)(x:Int):Nat:=zsG 8 (r ^^^ x.toNat)
noncomputable def zbf(sum:Nat)(bs:List Int):Nat:=4294967295 - bs.foldl zPL (4294967295 - sum)
theorem zXK{r:Nat}{x:Int}(h:r < 4294967296)(hx:0≤x∧x≤255):zPL r x < 4294967296:=zwx (Nat.xor_lt_two_pow (n:=32) h (show x.toNat < 2 ^ 32 by omega)) 8
theorem zOB:∀ (bs:List Int) (r:Nat),r < 4294967296→(∀ x ∈ bs,0≤x∧x≤255)→bs.foldl zPL r < 4294967296
 | [],_,h,_=>h
 | x::bs,r,h,hb=>zOB bs _ (zXK h (hb x List.mem_cons_self)) fun y hy=>hb y (List.mem_cons_of_mem _ hy)
theorem byte_at{K:VH}(hO:St H Γ)(h:RdB Γ v xs){i:Int}{n:Nat}(hn:i=n)(hi:n < xs.length)(hk:K (.int .u8 xs[n]) H):opP (zWa 1 v (int i)) fun t=>opW (zba t H) K:=by
 subst hn
 obtain⟨p2,o,c,j2,b,rfl,h1,h2⟩:=h.at hi
 refine zaa (zHa (by omega) (by omega)) ?_
 exact zha hO j2 h1 (v:=.int .u8 xs[n]) (by simpa using h2) hk
theorem zHx{sum:Nat}(hO:St H Γ)(hv:RdB Γ v bs)(hb:∀ x ∈ bs,0≤x∧x≤255)(hl:bs.length≤1000000000)(hs:sum < 4294967296)(hk:K (zib .u32 (zbf sum bs)) H):wCall P zcl [zib .u32 sum,v] H K:=by
 apply zGB; unfold zoD
 refine zaa (zjG rfl hs) ?_
 refine zDa hv.lenSl ?_
 have hsz:szU .u32 - 1 - sum=4294967295 - sum:=rfl
 refine zzt (fun k l' H'=>∃ y:Nat,y≤bs.length∧k=bs.length - y∧l'=[.int .u32 0,zib .u32 ((bs.take y).foldl zPL (4294967295 - sum)),v,int bs.length,int y]∧H'=H) _ _ ?_ bs.length _ _ ⟨0,by omega,rfl,rfl,rfl⟩
 rintro k l' H' ⟨y,hy,rfl,rfl,rfl⟩
 unfold zyt
 try simp only[zla,zma]
 have hlt:=zOB (bs.take y) (4294967295 - sum) (by omega) fun x hx=>hb x (List.mem_of_mem_take hx)
 repeat (first|refine oi ?_|refine ow ?_|refine wy ?_|refine wn ?_|refine wt ?_|refine wf' ?_|refine cy ?_|refine cn ?_)
 refine zja (fun h=>?_) (fun h=>?_)
 ·have hyl:y < bs.length:=by omega
  have hx:=hb _ (List.getElem_mem hyl)
  refine byte_at (n:=y) hO hv rfl hyl ?_
  rw[zuf hx.1]
  refine zDa (cvU rfl) ?_
  rw[show bs[y].toNat % szU .u32=bs[y].toNat from Nat.mod_eq_of_lt (show bs[y].toNat < 2 ^ 32 by omega)]
  refine zaa (zcD rfl hlt (show bs[y].toNat < 2 ^ 32 by omega)) ?_
  refine zxx (Nat.xor_lt_two_pow (n:=32) hlt (show bs[y].toNat < 2 ^ 32 by omega)) ?_
  repeat (first|refine oi ?_|refine ow ?_|refine wy ?_|refine wn ?_|refine wt ?_|refine wf' ?_|refine cy ?_|refine cn ?_)
  refine⟨_,by omega,y+1,by omega,rfl,?_,rfl⟩
  rw[List.take_succ_eq_append_getElem hyl,List.foldl_append]; rfl
 ·have e:y=bs.length:=by omega
  subst e
  repeat (first|refine oi ?_|refine ow ?_|refine wy ?_|refine wn ?_|refine wt ?_|refine wf' ?_|refine cy ?_|refine cn ?_)
  refine zaa (zjG rfl hlt) ?_
  rw[List.take_length]
  exact hk
theorem zUz{c jz q:Nat}{b:Bool}(hO:St H Γ)(hz:Γ[jz]?=some (q,⟨[v],b⟩))(hv:RdB Γ v bs)(hb:∀ x ∈ bs,0≤x∧x≤255)(hl:bs.length≤1000000000)(hk:K (zib .u32 (zbf 0 bs)) H):wCall P ztn [sl q 0 1 c] H K:=by
 apply zoE; unfold zrG
 repeat (first|refine oi ?_|refine ow ?_|refine wy ?_|refine wn ?_|refine wt ?_|refine wf' ?_|refine cy ?_|refine cn ?_)
 refine zVu (fun k l' H'=>∃ y:Nat,y≤1∧k=1 - y∧l'=[.int .u32 0,zib .u32 (if y=0 then 0 else zbf 0 bs),sl q 0 1 c,int 1,int y]∧H'=H) _ _ ?_ 1 _ _ ⟨0,by omega,rfl,rfl,rfl⟩
 rintro k l' H' ⟨y,hy,rfl,rfl,rfl⟩
 unfold zcw
 try simp only[zla,zma]
 refine zaa zMa ?_
 refine zja (fun h=>?_) (fun h=>?_)
 ·have ey:y=0:=by omega
  subst ey
  refine zaa (zHa (by omega) (by omega)) ?_
  refine zha hO jz hz rfl ?_
  refine zHx (sum:=0) hO hv hb hl (by omega) ?_
  repeat (first|refine oi ?_|refine ow ?_|refine wy ?_|refine wn ?_|refine wt ?_|refine wf' ?_|refine cy ?_|refine cn ?_)
  exact⟨_,Nat.zero_lt_one,1,by omega,rfl,rfl,rfl⟩
 ·have ey:y=1:=by omega
  subst ey
  repeat (first|refine oi ?_|refine ow ?_|refine wy ?_|refine wn ?_|refine wt ?_|refine wf' ?_|refine cy ?_|refine cn ?_)
  exact hk
theorem zgl(h:RdB Γ v xs){i n:Nat}(hn:i+n≤xs.length){mx:Option Value}(hm:mx=none∨mx=some (int ((i+n:Nat):Int))):∃ v',zLa 1 v (some (int i)) (some (int ((i+n:Nat):Int))) mx=some v'∧Inh v xs v' ((xs.drop i).take n):=by
 have hb:∀ len:Nat,i+n≤len→zpc len (some (int ((i+n:Nat):Int)))=some (i+n):=fun len hl=>by
  show (match leB 0 ((i+n:Nat):Int) with|true=>(match Nat.ble ((i+n:Nat):Int).toNat len with|true=>some ((i+n:Nat):Int).toNat|false=>none)|false=>none)=_
  rw[zhc,decide_eq_true (by omega)]
  simp only[Int.toNat_natCast]
  rw[Nat.ble_eq_true_of_le hl]
 have hlo:zdd (i+n) (some (int (i:Int)))=some i:=by
  show (match leB 0 (i:Int) with|true=>(match Nat.ble (i:Int).toNat (i+n) with|true=>some (i:Int).toNat|false=>none)|false=>none)=_
  rw[zhc,decide_eq_true (by omega)]
  simp only[Int.toNat_natCast]
  rw[Nat.ble_eq_true_of_le (by omega)]
 have hmx:∃ f,zGj (i+n) (some (int ((i+n:Nat):Int))) mx=some f:=by
  rcases hm with rfl|rfl
  ·exact⟨false,rfl⟩
  ·refine⟨true,?_⟩
   show (match leB 0 ((i+n:Nat):Int) with|true=>(match Nat.beq ((i+n:Nat):Int).toNat (i+n) with|true=>some true|false=>none)|false=>none)=_
   rw[zhc,decide_eq_true (by omega)]
   simp only[Int.toNat_natCast,Nat.beq_refl]
 obtain⟨f,hf⟩:=hmx
 rcases h with⟨rfl,rfl⟩|⟨p,o,c,rfl,hc,_⟩
 ·have h0:i=0∧n=0:=by simp at hn; omega
  obtain⟨rfl,rfl⟩:=h0
  rcases hm with rfl|rfl <;> exact⟨zya,rfl,.none⟩
 ·have he:∃ c',(c'=2∨c'=3)∧zLa 1 (sl p o xs.length c) (some (int i)) (some (int ((i+n:Nat):Int))) mx=some (sl p (o+i) n c'):=by
   generalize int ((i+n:Nat):Int)=hh at hb hf ⊢
   generalize int (i:Int)=ii at hlo ⊢
   rcases hc with rfl|rfl
   ·refine⟨cond f 3 2,by cases f <;> simp,?_⟩
    simp[zLa,hb _ hn,hlo,hf,zqc]
   ·refine⟨cond (f || Nat.beq (i+n) xs.length) 3 2,by cases f || Nat.beq (i+n) xs.length <;> simp,?_⟩
    simp[zLa,hb _ hn,hlo,hf,zqc]
  obtain⟨c',hc',he⟩:=he
  refine⟨_,he,fun Γ' h=>?_⟩
  rcases h with⟨h,_⟩|⟨p',o',c'',heq,_,h⟩
  ·cases h
  cases heq
  have hl:((xs.drop i).take n).length=n:=by rw[List.length_take,List.length_drop]; omega
  refine .inr ⟨p,o+i,c',by rw[hl],hc',?_⟩
  rcases h with rfl|⟨j,b,h1,h2⟩
  ·exact .inl (by simp)
  ·refine .inr ⟨j,b,h1,?_⟩
   have:=congrArg (fun l=>(List.drop i l).take n) h2
   rw[List.drop_take,List.drop_drop,List.take_take,Nat.min_eq_left (by omega)] at this
   rw[hl,this,by8,by8,List.map_take,List.map_drop]
theorem zGG{q o n c i:Nat}{cs:List Value}(hO:St H Γ)(hi:Γ[i]?=some (q,⟨cs,true⟩))(hn:0 < n)(hk:K (sl q o n c) H):opW (zBp (sl q o n c) H) K:=by
 refine zDa ?_ hk
 have hb:Nat.beq n 0=false:=by
  cases hb:Nat.beq n 0 with
  | false=>rfl
  | true=>have:=Nat.eq_of_beq_eq_true hb; omega
 unfold zBp
 simp only[hb,hO.at i hi (.inl rfl)]
 have:Heap.mayWrite H q ⟨cs,true⟩=true:=by unfold Heap.mayWrite; rw[hO.fl]; rfl
 rw[this]
noncomputable def zwl(kind:Nat)(seq:Nat)(body:List Int):List Int:=
 (([66,74]++[(kind:Int)]++leN 8 seq++leN 2 body.length)++body)++leN 4 (zbf 0 (([66,74]++[(kind:Int)]++leN 8 seq++leN 2 body.length)++body))
theorem zAD(y n:Nat):∀ x ∈ leN y n,0≤x∧x≤255:=by
 intro x hx
 obtain⟨i,_,rfl⟩:=List.mem_map.1 hx
 have:n / 256 ^ i % 256 < 256:=Nat.mod_lt _ (by omega)
 omega
abbrev By(xs:List Int):Prop:=∀ x ∈ xs,0≤x∧x≤255
theorem By.app'{xs ys:List Int}(h:By xs)(h2:By ys):By (xs++ys):=fun x hx=>by
 rcases List.mem_append.1 hx with hx|hx
 ·exact h x hx
 ·exact h2 x hx
theorem zIx{kind seq:Nat}{body:List Int}(hk:kind < 256)(hb:By body):By (([66,74]++[(kind:Int)]++leN 8 seq++leN 2 body.length)++body):=by
 refine By.app' (By.app' (By.app' (By.app' ?_ ?_) (zAD _ _)) (zAD _ _)) hb
 ·intro x hx; simp at hx; omega
 ·intro x hx; simp at hx; omega
theorem zYg{kind seq:Nat}{body:List Int}:(zwl kind seq body).length=17+body.length:=by
 unfold zwl
 simp[zhb]; omega
set_option maxHeartbeats 1000000 in
theorem zPB{kind seq:Nat}{body:List Int}(hO:St H Γ)(hv:RdB Γ v body)(hb:By body)(hl:body.length≤4000)(hk8:kind < 256)(hs:seq < 2 ^ 64)(hk:MadeB Γ K (zwl kind seq body)):wCall P zMh [zib .u8 kind,zib .u64 seq,v] H K:=by
 apply ztt; unfold zsq
 refine zEa hO (zqD _ _ _ _ _) ?_
 clear hO
 intro q H hO
 refine zGG hO (i:=Γ.length+0) (zqa rfl) (by omega) ?_
 refine zEa hO (zti _ _ _) ?_
 clear hO
 intro q2 H hO
 refine zAb (ys:=[(kind:Int)]) (xs:=[66,74]) (cs:=by8 [66,74]) (v:=sl q 0 2 3) hO (.inr ⟨q,.inr ⟨rfl,rfl⟩,rfl,Nat.le_refl _,rfl⟩) (by simp) rfl (.inr rfl) ?_
 clear hO
 intro H v1 c1 hO h1
 refine zBb (size:=8) hO h1.rd.app' (by simp) hs (by omega) ?_
 clear hO
 intro H v2 c2 hO h2
 replace hO:St H (Γ++zGa v2 c2):=St.mid hO
 refine zDa hv.lenSl ?_
 refine zDa (znE (by omega) (by omega)) ?_
 rw[Int.toNat_natCast]
 refine zBb (size:=2) hO h2.rd.app' (by simp[zhb]) (by omega) (by omega) ?_
 clear hO
 intro H v3 c3 hO h3
 replace hO:St H (Γ++zGa v3 c3):=St.mid hO
 obtain⟨a,n,c,e⟩:=hv.shape
 refine zEa hO (show (zpa P 104 1).f [(0,v)] H=some (sl H.next 0 1 3,H.push [v]) by rw[e]; exact zNz _ _ _ _) ?_
 clear hO
 intro q3 H hO
 refine zyx hO h3.rd.app'.app ⟨q3,3,(Γ++zGa v3 c3).length+0,true,rfl,zqa rfl⟩ hv.app.app (by simp[zhb]; omega) ?_
 clear hO
 intro H v4 c4 hO h4
 replace hO:St H (Γ++zGa v4 c4):=St.mid (St.mid hO)
 obtain⟨a,n,c,e4⟩:=h4.rd.shape
 refine zEa hO (show (zpa P 104 1).f [(0,v4)] H=some (sl H.next 0 1 3,H.push [v4]) by rw[e4]; exact zNz _ _ _ _) ?_
 clear hO
 intro q4 H hO
 have hby:=zIx (seq:=seq) hk8 hb
 have hln:(([66,74]++[(kind:Int)]++leN 8 seq++leN 2 body.length)++body).length≤5000:=by simp[zhb]; omega
 refine zUz hO (jz:=(Γ++zGa v4 c4).length+0) (zqa rfl) h4.rd.app'.app hby (by omega) ?_
 have hcl:zbf 0 (([66,74]++[(kind:Int)]++leN 8 seq++leN 2 body.length)++body) < 4294967296:=by unfold zbf; omega
 refine zDa (cvU rfl) ?_
 rw[show zbf 0 (([66,74]++[(kind:Int)]++leN 8 seq++leN 2 body.length)++body) % szU .u64=zbf 0 (([66,74]++[(kind:Int)]++leN 8 seq++leN 2 body.length)++body) from Nat.mod_eq_of_lt (by show _ < 2 ^ 64; omega)]
 refine zBb (size:=4) hO h4.rd.app'.app (by omega) (by omega) (by omega) ?_
 clear hO
 intro H v5 c5 hO h5
 exact hk _ _ _ (St.mid (St.mid hO)) h5
end J
set_option maxRecDepth 100000
namespace J
open Go Go.Ab
variable{H:Heap}{Γ Γ2:List (Nat × Blk)}{K:VH}{v w x:Value}{xs ys bs:List Int}{j p:Nat}{e:Int}
theorem zQB[lp:LpC]{l q2 q3:Nat}{I:Nat→Heap→Prop}(hI:∀ k H,I k H→∃ (Γ':List (Nat × Blk)) (j2 j3:Nat),St H Γ'∧Γ'[j2]?=some (q2,⟨[v],true⟩)∧Γ'[j3]?=some (q3,⟨[int 63],true⟩)∧RdB Γ' v bs)(hx:bs.length≤1000000)
  (hr:∀ k,63 * k < bs.length→∀ H vc,Inh v bs vc ((bs.drop (63 * k)).take 63)→I k H→wT P (.round l [vc] H) fun b H'=>b=.bool true∧I (k+1) H')
  (hO:I 0 H) (hk:∀ H',I ((bs.length+62) / 63) H'→K (.tuple [].toArray) H'):wCall P zpb [zSj l,ptr q2 0,ptr q3 0] H K:=by
 apply zXg; unfold zre
 refine zBf (fun k l' H'=>∃ y:Nat,y≤(bs.length+62) / 63∧k=(bs.length+62) / 63 - y∧l'=[zSj l,ptr q2 0,ptr q3 0,int ((63 * y:Nat):Int)]∧I y H') _ _ ?_ ((bs.length+62) / 63) _ _ ⟨0,by omega,rfl,rfl,hO⟩
 clear hO
 rintro k l' H ⟨y,hy,rfl,rfl,hO⟩
 unfold zxd
 try simp only[zla,zma]
 obtain⟨Γ',j2,j3,hS,h2,h3,hv⟩:=hI y H hO
 refine zha hS j2 h2 rfl ?_
 refine zDa hv.lenSl ?_
 refine zaa zMa ?_
 refine zja (fun h=>?_) (fun h=>?_)
 ·have hyl:63 * y < bs.length:=by omega
  refine zha hS j3 h3 rfl ?_
  refine zha hS j2 h2 rfl ?_
  obtain⟨v1,e1,r1⟩:=zmo hv (show 63 * y≤bs.length by omega)
  refine zaa e1 ?_
  refine zDa (r1 _ hv).lenSl ?_
  refine zDa zfG ?_
  refine zha hS j2 h2 rfl ?_
  have hm:min (63:Int) ((bs.drop (63 * y)).length:Int)=((min 63 (bs.length - 63 * y):Nat):Int):=by rw[List.length_drop]; omega
  rw[hm]
  have hn:63 * y+min 63 (bs.length - 63 * y)≤bs.length:=by omega
  refine zaa (v:=int ((63 * y+min 63 (bs.length - 63 * y):Nat):Int)) (by rw[zxb (by omega) (by omega)]; congr 2) ?_
  refine zaa (v:=int ((63 * y+min 63 (bs.length - 63 * y):Nat):Int)) (by rw[zxb (by omega) (by omega)]; congr 2) ?_
  obtain⟨vc,e2,r2⟩:=zgl hv hn (mx:=some (int ((63 * y+min 63 (bs.length - 63 * y):Nat):Int))) (.inr rfl)
  refine zaa e2 ?_
  have e3:(bs.drop (63 * y)).take (min 63 (bs.length - 63 * y))=(bs.drop (63 * y)).take 63:=by
   by_cases h5:63≤bs.length - 63 * y
   ·rw[Nat.min_eq_left h5]
   ·rw[Nat.min_eq_right (by omega),List.take_of_length_le (by rw[List.length_drop]; omega),List.take_of_length_le (by rw[List.length_drop]; omega)]
  rw[e3] at r2
  refine zfD (zvG (hr y hyl H vc r2 hO) ?_)
  rintro b2 H2 ⟨rfl,hO2⟩
  obtain⟨Γ3,k2,k3,hS3,h23,h33,_⟩:=hI (y+1) H2 hO2
  refine zaa zyc ?_
  refine zFe rfl ?_
  refine zha hS3 k3 h33 rfl ?_
  refine zaa (v:=int ((63 * (y+1):Nat):Int)) (by rw[zxb (by omega) (by omega)]; congr 2) ?_
  exact⟨_,by omega,y+1,by omega,rfl,rfl,hO2⟩
 ·have ey:y=(bs.length+62) / 63:=by omega
  subst ey
  refine zgb rfl ?_
  exact hk _ hO
def zRB(c:List Int):List Int:=c++(List.replicate (63 - c.length) 255++[0])
def nCh(n:Nat):Nat:=(n+62) / 63
def zXd(b:List Int):List (List Int):=(List.range (nCh b.length)).map fun k=>zRB ((b.drop (63 * k)).take 63)
def zgf(l:List (List Int)):List Value:=l.flatMap by8
abbrev zwM(Γ:List (Nat × Blk))(K:VH)(l:List (List Int)):Prop:=∀ (H':Heap) (v':Value),St H' (Γ++zGa v' (zgf l))→Own 64 v' l.length (zgf l)→K v' H'
theorem zBD{c:List Int}(h:c.length≤63):(zRB c).length=64:=by simp[zRB]; omega
theorem zte(b:List Int):(zXd b).length=nCh b.length:=by simp[zXd]
theorem zVz{b:List Int}:∀ s ∈ zXd b,s.length=64:=by
 intro s hs
 obtain⟨k,_,rfl⟩:=List.mem_map.1 hs
 exact zBD (by rw[List.length_take]; omega)
theorem zNt{b:List Int}{k:Nat}(h:k < nCh b.length):(zXd b).take (k+1)=(zXd b).take k++[zRB ((b.drop (63 * k)).take 63)]:=by
 rw[List.take_succ_eq_append_getElem (by rw[zte]; exact h)]
 congr 2
 simp[zXd]
theorem zYK{c:List Int}(h:c.length≤63):((by8 blank).take 0++(by8 c++(by8 blank).drop (0+c.length))).set 63 (.int .u8 0)=by8 (zRB c):=by
 have e:(by8 blank).drop (0+c.length)=by8 (List.replicate (63 - c.length) 255)++[.int .u8 255]:=by
  simp only[by8,blank,List.map_replicate,List.drop_replicate,Nat.zero_add]
  rw[show 64 - c.length=(63 - c.length)+1 by omega,List.replicate_succ']
 rw[e,List.take_zero,List.nil_append,← List.append_assoc,List.set_append_right _ _ (by simp; omega)]
 have e2:63 - (by8 c++by8 (List.replicate (63 - c.length) 255)).length=0:=by simp; omega
 rw[e2]
 simp[zRB,by8]
theorem zxM(g:Nat→Int)(H:Heap):(zpa P 99 1).f [(0,sec ((List.range 64).map g))] H=some (sl H.next 0 1 129,H.push (by8 ((List.range 64).map g))):=by kernel_rfl
theorem zZK{s:List Int}(h:s.length=64)(H:Heap):(zpa P 99 1).f [(0,sec s)] H=some (sl H.next 0 1 129,H.push (by8 s)):=by
 obtain⟨g,rfl⟩:=zIt h
 exact zxM g H
theorem zHO:zc P 99=[zya]:=by kernel_rfl
theorem zXI[lp:LpC]{q7 n:Nat}{vo vc:Value}{cs:List Value}{c:List Int}{X:Heap→Prop}(hO:St H ((Γ2++[(q7,⟨[vo],true⟩)])++zGa vo cs))(hv:Own 64 vo n cs)(hc:RdB Γ2 vc c)(hl:c.length≤63)(hn:n≤1000000)
  (hk:∀ H' vo',St H' ((Γ2++[(q7,⟨[vo'],true⟩)])++zGa vo' (cs++by8 (zRB c)))→Own 64 vo' (n+1) (cs++by8 (zRB c))→X H') :
  wCall P zIb [] H fun t19 H2=>
  zlb (zc P 94) H2 fun t9 H4=>
  opW (zka 64 t9 t19 H4) fun u H6=>
  opP (zmc 64 1 t9 none none none H6) fun t20=>
  opW (znj 1 t20 vc H6) fun t22 H9=>
  opP (zJa 64 1 t9 (.int .i64 63)) fun t23=>
  opW (zka 1 t23 (.int .u8 0) H9) fun u_1 H12=>
  opW (zba (ptr q7 0) H12) fun t24 H14=>
  opW (zna 64 t9 H14) fun t25 H16=>
  opW ((zpa P 99 1).f [(0,t25)] H16) fun t26 H18=>
  opW (zva 64 64 t24 t26 H18) fun t27 H20=>
  opW (zka 1 (ptr q7 0) t27 H20) fun u_2 H22=>X H22:=by
 refine zIg hO ?_
 clear hO
 intro H hO
 rw[zcS]
 refine zxa hO ?_
 clear hO
 intro p9 H hO
 refine zoa hO (((Γ2++[(q7,(⟨[vo],true⟩:Blk))])++zGa vo cs).length+0) (zqa rfl) (by rw[zta]; rfl) (by rw[zta]; rfl) (ztb _) ?_
 clear hO
 intro H hO
 replace hO:St H (((Γ2++[(q7,⟨[vo],true⟩)])++zGa vo cs)++[(p9,⟨by8 blank,true⟩)]):=hO.set_r
 refine zaa (zbi (n:=64) hO (((Γ2++[(q7,(⟨[vo],true⟩:Blk))])++zGa vo cs).length+0) (zqa rfl) (by omega) (by show _≤(by8 blank).length; rw[zta]; decide)) ?_
 refine zCG hO (i:=((Γ2++[(q7,(⟨[vo],true⟩:Blk))])++zGa vo cs).length+0) (zqa rfl) hc.app.app.app (by omega) (by rw[zta]; decide) ?_
 clear hO
 intro H hO
 replace hO:St H (((Γ2++[(q7,⟨[vo],true⟩)])++zGa vo cs)++[(p9,⟨(by8 blank).take 0++(by8 c++(by8 blank).drop (0+c.length)),true⟩)]):=hO.set_r
 refine zaa (zjb (by omega) (by omega)) ?_
 have hlen:((by8 blank).take 0++(by8 c++(by8 blank).drop (0+c.length))).length=64:=by
  rw[List.take_zero,List.nil_append,List.length_append,List.length_drop,zta,zta,show blank.length=64 from rfl]; omega
 refine zua hO (((Γ2++[(q7,(⟨[vo],true⟩:Blk))])++zGa vo cs).length+0) (zqa rfl) rfl (by rw[hlen]; decide) (zYK hl) ?_
 clear hO
 intro H hO
 replace hO:St H (((Γ2++[(q7,⟨[vo],true⟩)])++zGa vo cs)++[(p9,⟨by8 (zRB c),true⟩)]):=hO.set_r
 have hpl:=zBD hl
 refine zha hO (Γ2.length+0) (zza (zza (zqa rfl))) rfl ?_
 refine zia hO (((Γ2++[(q7,(⟨[vo],true⟩:Blk))])++zGa vo cs).length+0) (zqa rfl) (by rw[zta]; exact hpl) (by omega) ?_
 replace hO:=hO.left
 refine zEa hO (zZK hpl _) ?_
 clear hO
 intro q H hO
 refine zSc hO hv (by rw[zta]; exact hpl) (by omega) (ztb _) (by omega) (by omega) ?_
 clear hO
 intro vo' H hO hv'
 obtain⟨a1,n1,c1,e1⟩:∃ a1 n1 c1,vo'=.slice a1 n1 c1:=by rcases hv' with⟨_,h,_⟩|⟨p,rfl|rfl,_⟩; omega; exact⟨_,_,_,rfl⟩; exact⟨_,_,_,rfl⟩
 refine zua hO (Γ2.length+0) (zza (zqa rfl)) (by rw[e1]; rfl) (show 0 < 1 by omega) rfl ?_
 clear hO
 intro H hO
 rw[List.set_append_left _ _ (by simp),Go.Ab.set_r] at hO
 exact hk H vo' hO hv'
noncomputable def zih(kind seq:Nat)(body:List Int):List (List Int):=if 4000 < body.length then [] else zXd (zwl kind seq body)
set_option maxHeartbeats 2000000 in
theorem zJx{kind seq:Nat}{body:List Int}(hO:St H Γ)(hv:RdB Γ v body)(hb:By body)(hk8:kind < 256)(hs:seq < 2 ^ 64)(hk:zwM Γ K (zih kind seq body)):wCall P zyf [zib .u8 kind,zib .u64 seq,v] H K:=by
 apply zIz; unfold zHz
 refine zDa hv.lenSl ?_
 refine zaa zkc ?_
 unfold zih at hk
 refine zja (fun h=>?_) (fun h=>?_)
 ·rw[if_pos (by omega)] at hk
  refine hk H zya ?_ (.inl ⟨rfl,rfl,rfl⟩)
  show St H (Γ++[])
  rw[List.append_nil]; exact hO
 rw[if_neg (by omega)] at hk
 rw[zHO]
 refine zxa hO ?_
 clear hO
 intro q7 H hO
 refine zPB hO hv.app hb (by omega) hk8 hs ?_
 clear hO
 have hsl:=zYg (kind:=kind) (seq:=seq) (body:=body)
 generalize zwl kind seq body=bs at *
 intro H v16 c16 hO h16
 replace hO:=hO.rot
 apply zPh
 unfold zkf
 refine zxa hO ?_
 clear hO
 intro q2 H hO
 refine zxa hO ?_
 clear hO
 intro q3 H9 hO
 obtain⟨a1,n1,c1,e1⟩:=RdB.shape h16.rd
 have hc1:zFa v16=[v16]:=by rw[e1]; rfl
 rw[hc1] at hO
 refine zha hO ((((Γ++zGa v16 c16)++[(q7,(⟨[zya],true⟩:Blk))])++[(q2,(⟨[v16],true⟩:Blk))]).length+0) (zqa rfl) rfl ?_
 refine zaa zMa ?_
 refine zFe rfl ?_
 have hO2:St H9 ((((Γ++zGa v16 c16)++[(q2,⟨[v16],true⟩),(q3,⟨[int 63],true⟩)])++[(q7,⟨[zya],true⟩)])++zGa zya (zgf ((zXd bs).take 0))):=by
  show St H9 ((((Γ++zGa v16 c16)++[(q2,⟨[v16],true⟩),(q3,⟨[int 63],true⟩)])++[(q7,⟨[zya],true⟩)])++[])
  rw[List.append_nil]
  have h5:St H9 (((Γ++zGa v16 c16)++[(q7,⟨[zya],true⟩)])++[(q2,⟨[v16],true⟩),(q3,⟨[int 63],true⟩)]):=by
   rw[List.append_assoc (_++[(q7,_)])] at hO; exact hO
  exact h5.rot
 have r2:∀ Δ,RdB (((Γ++zGa v16 c16)++[(q2,(⟨[v16],true⟩:Blk)),(q3,⟨[int 63],true⟩)])++Δ) v16 bs:=fun Δ=>h16.rd.app'.app.app
 refine zeD (L:=lp0) hO2 (f:=zpb) (args:=[zSj (Nat.succ H9.next),ptr q2 0,ptr q3 0]) rfl ?_
 intro T hT hag H0 hO0
 generalize hL:lpc (Nat.succ H9.next) _ lp0=L at hO0
 refine zQB (lp:=L) (l:=Nat.succ H9.next) (v:=v16) (bs:=bs) (I:=fun k H'=>∃ vo,@St L H' ((((Γ++zGa v16 c16)++[(q2,⟨[v16],true⟩),(q3,⟨[int 63],true⟩)])++[(q7,⟨[vo],true⟩)])++zGa vo (zgf ((zXd bs).take k)))∧Own 64 vo (min k (nCh bs.length)) (zgf ((zXd bs).take k))) ?_ (by omega) ?_ ⟨zya,hO0,.inl ⟨rfl,by omega,rfl⟩⟩ ?_
 ·rintro k H' ⟨vo,h1,h2⟩
  exact⟨_,_,_,h1,zza (zza (zqa (k:=0) rfl)),zza (zza (zqa (k:=1) rfl)),by rw[List.append_assoc]; exact r2 _⟩
 ·rintro k hkl H vc hvc ⟨vo,hOm,hvo⟩
  subst hL
  have hkn:k < nCh bs.length:=by unfold nCh; omega
  have hl63:((bs.drop (63 * k)).take 63).length≤63:=by rw[List.length_take]; omega
  refine zdD (n:=29) hOm hT hag rfl (by decide) ?_
  rw[zmt]
  unfold znq
  refine zUy hOm ?_
  intro H2 hO2
  rw[Nat.min_eq_left (by omega)] at hvo
  refine zXI (lp:=lpc (Nat.succ H9.next) _ lp0) hO2 hvo (hvc _ (by have:=r2 []; rw[List.append_nil] at this; exact this)) hl63 (by have:nCh bs.length≤bs.length+62:=Nat.div_le_self _ _; omega) ?_
  intro H3 vo' hO3 hvo'
  have e4:zgf ((zXd bs).take k)++by8 (zRB ((bs.drop (63 * k)).take 63))=zgf ((zXd bs).take (k+1)):=by
   rw[zNt hkn]; simp[zgf]
  rw[e4] at hO3 hvo'
  refine zpG hO3 ?_
  intro H4 hO4
  refine⟨rfl,vo',hO4,?_⟩
  rw[Nat.min_eq_left (by omega)]
  exact hvo'
 ·rintro H2 ⟨vo,hO2,hvo⟩
  subst hL
  refine⟨.ready,_,by simp,hO2,?_⟩
  intro H3 hO3
  show opW _ _
  have e5:(zXd bs).take ((bs.length+62) / 63)=zXd bs:=List.take_of_length_le (by rw[zte]; exact Nat.le_refl _)
  rw[e5] at hO3 hvo
  refine zha hO3 (((Γ++zGa v16 c16)++[(q2,(⟨[v16],true⟩:Blk)),(q3,⟨[int 63],true⟩)]).length+0) (zza (zqa rfl)) rfl ?_
  refine hk _ vo ?_ ?_
  ·exact hO3.sub (List.Sublist.append (by rw[List.append_assoc,List.append_assoc]; exact List.sublist_append_left _ _) (List.Sublist.refl _))
  ·rw[zte]
   have e6:min ((bs.length+62) / 63) (nCh bs.length)=nCh bs.length:=Nat.min_self _
   rw[e6] at hvo
   exact hvo
end J
